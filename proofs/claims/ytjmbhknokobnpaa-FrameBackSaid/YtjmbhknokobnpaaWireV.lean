/- Contracts of the reference's OpOf and FrameFor. Printed by mkwire7.py. -/
import Derived.Test.YtjmbhknokobnpaaWireO
import Derived.Test.YtjmbhknokobnpaaWireT
import Derived.Test.YtjmbhknokobnpaaWireB
import Derived.Deep.Cut
set_option linter.unusedVariables false
set_option linter.unusedSimpArgs false
namespace Go.Kn
open Go Go.RowKit
/-- a world behind a name -/
theorem opaqueW {F : World → Prop} {W : World} (h : ∀ w', w' = W → F w') : F W := h W rfl
theorem frMay_kind {f : Fr} (h : frMay f = true) : f.k = 1 ∨ f.k = 2 ∨ f.k = 3 ∨ f.k = 8 ∨ f.k = 9 := by
  unfold frMay at h
  by_cases h1 : f.k = 1
  · exact .inl h1
  by_cases h2 : f.k = 2
  · exact .inr (.inl h2)
  by_cases h3 : f.k = 3
  · exact .inr (.inr (.inl h3))
  by_cases h8 : f.k = 8
  · exact .inr (.inr (.inr (.inl h8)))
  by_cases h9 : f.k = 9
  · exact .inr (.inr (.inr (.inr h9)))
  rw [if_neg h1, if_neg h2, if_neg h3, if_neg h8, if_neg h9] at h
  simp at h
/-- the frame of an op -/
def frFor (v s : Int) (o : Op5) : Option Fr := if frMay ⟨o.k, v, s, o.b, o.c, o.e, 0, o.data⟩ = true ∧ o.k ≠ 8 ∧ o.k ≠ 9 then some ⟨o.k, v, s, o.b, o.c, o.e, 0, o.data⟩ else none
/-- what a call answers that gives a frame, or none -/
def FrSaysB (w : World) (o : Option Fr) (e : Ending) (w' : World) : Prop :=
  ∃ A n c, e = .returned (.tuple #[.agg #[.int .i64 (o.getD frZero).k, .int .i64 (o.getD frZero).v, .int .i64 (o.getD frZero).s, .int .i64 (o.getD frZero).b, .int .i64 (o.getD frZero).c, .int .i64 (o.getD frZero).e, .int .i64 (o.getD frZero).d, .slice A n c], .bool o.isSome]) ∧ Bys w' A n c (o.getD frZero).data ∧ Only [] w w'
theorem FrSaysB.no {w w' : World} {o : Option Fr} (h : o = none) (hO : Only [] w w') : FrSaysB w o (.returned (.tuple #[.agg #[.int .i64 0, .int .i64 0, .int .i64 0, .int .i64 0, .int .i64 0, .int .i64 0, .int .i64 0, .slice none 0 0], .bool false])) w' := by
  subst h
  exact ⟨none, 0, 0, rfl, Row1.nil _, hO⟩
theorem frMay_in {f : Fr} (h : frMay f = true) : decide (1 ≤ f.k ∧ f.k ≤ 3) = true ↔ (f.k ≠ 8 ∧ f.k ≠ 9) := by
  have := frMay_kind h
  rw [decide_eq_true_eq]
  omega
end Go.Kn
namespace Go.Proofs.Ytjmbhknokobnpaa
open Go Go.RowKit Go.Kn

set_option maxRecDepth 100000 in
set_option maxHeartbeats 8000000 in
theorem ref_op_any (k v s b c e d : Int) (A : Option Addr) (n cp : Nat) (xs : List UInt8) (w : World) (hi : Bys w A n cp xs) (hn : n ≤ 1000000) :
    Calls Try.prog 54 #[.agg #[.int .i64 k, .int .i64 v, .int .i64 s, .int .i64 b, .int .i64 c, .int .i64 e, .int .i64 d, .slice A n cp]] w (OpSays w (opOf ⟨k, v, s, b, c, e, d, xs⟩)) := by
  have hlen := hi.len
  rw [bvs_length] at hlen
  have hres : Try.f54.results = #[.cell 2 78, .tmp 3] := by kernel_rfl
  have HRES := Lib.hid hres
  have HI := Lib.hid hi
  obtain ⟨mm, hmm⟩ : ∃ mm, frMay ⟨k, v, s, b, c, e, d, xs⟩ = mm := ⟨_, rfl⟩
  obtain ⟨wi, hwi⟩ : ∃ wi, decide (1 ≤ k ∧ k ≤ 3) = wi := ⟨_, rfl⟩
  have hop : opOf ⟨k, v, s, b, c, e, d, xs⟩ = if mm = true ∧ wi = true then some ⟨k, b, c, e, xs⟩ else none := by
    unfold opOf
    rw [hmm]
    cases mm
    · simp
    · have := frMay_in hmm
      dsimp only at this
      rw [hwi] at this
      by_cases h : wi = true
      · rw [if_pos ⟨rfl, this.1 h⟩, if_pos ⟨rfl, h⟩]
      · rw [if_neg (fun q => h (this.2 q.2)), if_neg (fun q => h q.2)]
  obtain ⟨oo, hoo⟩ : ∃ oo, opOf ⟨k, v, s, b, c, e, d, xs⟩ = oo := ⟨_, rfl⟩
  rw [hoo] at hop ⊢
  have HOP := Lib.hid hop
  have HMM := Lib.hid hmm
  have HWI := Lib.hid hwi
  have HLEN := Lib.hid hlen
  clear hres hi hmm hwi hop hoo hlen
  have key : mm = false ∨ (mm = true ∧ wi = false) ∨ (mm = true ∧ wi = true) := by cases mm <;> cases wi <;> simp
  go_enter Try.func54, Try.ntmps54
  go_wp2_with fail
  refine (ref_frame_may_any k v s b c e d A n cp xs _ (by exact (HI.out.alloc _).alloc _)).mono ?_
  rintro en w1 ⟨rfl, hO1⟩
  rw [HMM.out]
  have hs1 : (w.alloc (.cells #[.int .i64 k, .int .i64 v, .int .i64 s, .int .i64 b, .int .i64 c, .int .i64 e, .int .i64 d, .slice A n cp] 64)).heap.size = w.heap.size + 1 := by simp
  have HBX := ((Boxes.nil w).new #[.int .i64 k, .int .i64 v, .int .i64 s, .int .i64 b, .int .i64 c, .int .i64 e, .int .i64 d, .slice A n cp] 64).new #[.int .i64 0, .int .i64 0, .int .i64 0, .int .i64 0, .slice none 0 0] 78
  rw [hs1] at HBX
  have HB1 := Lib.hid (HBX.keep0 hO1)
  have HI1 := Lib.hid (((HI.out.alloc (.cells #[.int .i64 k, .int .i64 v, .int .i64 s, .int .i64 b, .int .i64 c, .int .i64 e, .int .i64 d, .slice A n cp] 64)).alloc (.cells #[.int .i64 0, .int .i64 0, .int .i64 0, .int .i64 0, .slice none 0 0] 78)).keep0 hO1)
  have HO1 := Lib.hid ((((Only.refl [] w).alloc (.cells #[.int .i64 k, .int .i64 v, .int .i64 s, .int .i64 b, .int .i64 c, .int .i64 e, .int .i64 d, .slice A n cp] 64)).alloc (.cells #[.int .i64 0, .int .i64 0, .int .i64 0, .int .i64 0, .slice none 0 0] 78)).trans' hO1)
  clear HBX hO1 hs1 HI
  have Bx := HB1.out (w.heap.size, [.int .i64 k, .int .i64 v, .int .i64 s, .int .i64 b, .int .i64 c, .int .i64 e, .int .i64 d, .slice A n cp]) (by simp)
  have x0 := Bx.cell 0 (by simp)
  have x1 := Bx.cell 1 (by simp)
  have x2 := Bx.cell 2 (by simp)
  have x3 := Bx.cell 3 (by simp)
  have x4 := Bx.cell 4 (by simp)
  have x5 := Bx.cell 5 (by simp)
  have x6 := Bx.cell 6 (by simp)
  have x7 := Bx.cell 7 (by simp)
  simp only [List.getElem_cons_zero, List.getElem_cons_succ] at x0 x1 x2 x3 x4 x5 x6 x7
  have Bt := HB1.out (w.heap.size + 1, [.int .i64 0, .int .i64 0, .int .i64 0, .int .i64 0, .slice none 0 0]) (by simp)
  have t0 := Bt.cell 0 (by simp)
  have t1 := Bt.cell 1 (by simp)
  have t2 := Bt.cell 2 (by simp)
  have t3 := Bt.cell 3 (by simp)
  have t4 := Bt.cell 4 (by simp)
  simp only [List.getElem_cons_zero, List.getElem_cons_succ] at t0 t1 t2 t3 t4
  have u0 := Bt.frozen 0
  have u1 := Bt.frozen 1
  have u2 := Bt.frozen 2
  have u3 := Bt.frozen 3
  have u4 := Bt.frozen 4
  have hlt1 : w.heap.size + 1 < w1.heap.size := Bt.lt
  clear Bx Bt
  have hne1 : ¬ (w.heap.size + 1 = w.heap.size) := by omega
  have hne2 : ¬ (w.heap.size = w.heap.size + 1) := by omega
  have hne3 : ¬ (w.heap.size = w1.heap.size) := by omega
  have hne4 : ¬ (w.heap.size + 1 = w1.heap.size) := by omega
  rcases key with rfl | ⟨rfl, rfl⟩ | ⟨rfl, rfl⟩
  · go_wp2
    (try simp only [Exit.inBlock, Exit.then])
    refine bodyPost_ret (v := .tuple #[.agg #[.int .i64 0, .int .i64 0, .int .i64 0, .int .i64 0, .slice none 0 0], .bool false]) ?_ rfl ?_
    · simp only [results, HRES.out]
      go_simp
    · refine OpSays.no (by rw [HOP.out]; simp) ?_
      (repeat' refine Only.set ?_ (.inr (by first | (simp; done) | (simp; omega) | omega)) _)
      exact HO1.out
  · go_wp2_with (first | (go_at_call 105; refine (within_any _ _ _ _).mono ?_; rintro e w' ⟨rfl, rfl⟩; rw [HWI.out]))
    (try simp only [Exit.inBlock, Exit.then])
    refine bodyPost_ret (v := .tuple #[.agg #[.int .i64 0, .int .i64 0, .int .i64 0, .int .i64 0, .slice none 0 0], .bool false]) ?_ rfl ?_
    · simp only [results, HRES.out]
      go_simp
    · refine OpSays.no (by rw [HOP.out]; simp) ?_
      (repeat' refine Only.set ?_ (.inr (by first | (simp; done) | (simp; omega) | omega)) _)
      exact HO1.out
  · go_upto_region 4 with (first | (go_at_call 105; refine (within_any _ _ _ _).mono ?_; rintro e w' ⟨rfl, rfl⟩; rw [HWI.out]))
    refine opaqueW (F := Code.wp _ _ _ _) ?_
    intro wx hwx
    have hOn : Own wx w1.heap.size [.int .i64 k, .int .i64 b, .int .i64 c, .int .i64 e, .slice none 0 0] := by
      rw [hwx]
      exact Own.new w1 #[.int .i64 k, .int .i64 b, .int .i64 c, .int .i64 e, .slice none 0 0] 78
    have hOx : Only [] w1 wx := by
      rw [hwx]
      exact (Only.refl _ _).alloc _
    have hOy : Only [] w wx := HO1.out.trans' hOx
    have HX := Lib.hid hOn
    have HIX := Lib.hid (HI1.out.keep0 hOx)
    have hB2 := HB1.out.keep0 hOx
    have HF := Lib.hid (hB2 (w.heap.size, [.int .i64 k, .int .i64 v, .int .i64 s, .int .i64 b, .int .i64 c, .int .i64 e, .int .i64 d, .slice A n cp]) (by simp))
    have HR := Lib.hid (hB2 (w.heap.size + 1, [.int .i64 0, .int .i64 0, .int .i64 0, .int .i64 0, .slice none 0 0]) (by simp))
    have HOX := Lib.hid hOy
    have hszx : w1.heap.size < wx.heap.size := hOn.lt
    clear hwx hOn hOx hOy hB2 x0 x1 x2 x3 x4 x5 x6 x7 t0 t1 t2 t3 t4 u0 u1 u2 u3 u4 HI1 HB1 HO1
    have x7 : wx.cell? ⟨w.heap.size, 7, none⟩ = some (.slice A n cp) := HF.out.cell 7 (by simp)
    have o0 : wx.cell? ⟨w1.heap.size, 0, none⟩ = some (.int .i64 k) := HX.out.cell 0 (by simp)
    have o1 : wx.cell? ⟨w1.heap.size, 1, none⟩ = some (.int .i64 b) := HX.out.cell 1 (by simp)
    have o2 : wx.cell? ⟨w1.heap.size, 2, none⟩ = some (.int .i64 c) := HX.out.cell 2 (by simp)
    have o3 : wx.cell? ⟨w1.heap.size, 3, none⟩ = some (.int .i64 e) := HX.out.cell 3 (by simp)
    have o4 : wx.cell? ⟨w1.heap.size, 4, none⟩ = some (.slice none 0 0) := HX.out.cell 4 (by simp)
    rcases Nat.eq_zero_or_pos n with h0 | h0
    · subst h0
      obtain rfl : xs = [] := List.eq_nil_of_length_eq_zero HLEN.out
      have t0 : wx.cell? ⟨w.heap.size + 1, 0, none⟩ = some (.int .i64 0) := HR.out.cell 0 (by simp)
      have u0 := HR.out.frozen 0
      have t1 : wx.cell? ⟨w.heap.size + 1, 1, none⟩ = some (.int .i64 0) := HR.out.cell 1 (by simp)
      have u1 := HR.out.frozen 1
      have t2 : wx.cell? ⟨w.heap.size + 1, 2, none⟩ = some (.int .i64 0) := HR.out.cell 2 (by simp)
      have u2 := HR.out.frozen 2
      have t3 : wx.cell? ⟨w.heap.size + 1, 3, none⟩ = some (.int .i64 0) := HR.out.cell 3 (by simp)
      have u3 := HR.out.frozen 3
      have t4 : wx.cell? ⟨w.heap.size + 1, 4, none⟩ = some (.slice none 0 0) := HR.out.cell 4 (by simp)
      have u4 := HR.out.frozen 4
      go_wp2
      (try simp only [Exit.inBlock, Exit.then])
      refine bodyPost_ret (v := .tuple #[.agg #[.int .i64 k, .int .i64 b, .int .i64 c, .int .i64 e, .slice none 0 0], .bool true]) ?_ rfl ?_
      · simp only [results, HRES.out]
        go_simp
      · have eo := HOP.out
        simp only [and_self, if_true] at eo
        subst eo
        refine ⟨none, 0, 0, rfl, Row1.nil _, ?_⟩
        (repeat' refine Only.set ?_ (.inr (by first | (simp; done) | (simp; omega) | omega)) _)
        exact HOX.out
    · have hd : decide (0 < (n : Int)) = true := by simp; omega
      go_wp2_with fail
      refine (part_any A n cp xs 0 n n _ (by exact HIX.out) (by omega) (by omega) (by simp)).mono ?_
      rintro en w3 ⟨rfl, ho3, hO3⟩
      have hxs : (xs.drop 0).take n = xs := by rw [List.drop_zero, List.take_of_length_le (by have := HLEN.out; omega)]
      rw [hxs] at ho3
      have HP := Lib.hid ho3
      have HX3 := Lib.hid (HX.out.keep0 hO3)
      have HR3 := Lib.hid (HR.out.keep0 hO3)
      have HO3 := Lib.hid (HOX.out.trans' hO3)
      clear ho3 hO3 hxs x7 o0 o1 o2 o3 o4
      have t0 : w3.cell? ⟨w.heap.size + 1, 0, none⟩ = some (.int .i64 0) := HR3.out.cell 0 (by simp)
      have u0 := HR3.out.frozen 0
      have t1 : w3.cell? ⟨w.heap.size + 1, 1, none⟩ = some (.int .i64 0) := HR3.out.cell 1 (by simp)
      have u1 := HR3.out.frozen 1
      have t2 : w3.cell? ⟨w.heap.size + 1, 2, none⟩ = some (.int .i64 0) := HR3.out.cell 2 (by simp)
      have u2 := HR3.out.frozen 2
      have t3 : w3.cell? ⟨w.heap.size + 1, 3, none⟩ = some (.int .i64 0) := HR3.out.cell 3 (by simp)
      have u3 := HR3.out.frozen 3
      have t4 : w3.cell? ⟨w.heap.size + 1, 4, none⟩ = some (.slice none 0 0) := HR3.out.cell 4 (by simp)
      have u4 := HR3.out.frozen 4
      have o0 : w3.cell? ⟨w1.heap.size, 0, none⟩ = some (.int .i64 k) := HX3.out.cell 0 (by simp)
      have o1 : w3.cell? ⟨w1.heap.size, 1, none⟩ = some (.int .i64 b) := HX3.out.cell 1 (by simp)
      have o2 : w3.cell? ⟨w1.heap.size, 2, none⟩ = some (.int .i64 c) := HX3.out.cell 2 (by simp)
      have o3 : w3.cell? ⟨w1.heap.size, 3, none⟩ = some (.int .i64 e) := HX3.out.cell 3 (by simp)
      have o4 : w3.cell? ⟨w1.heap.size, 4, none⟩ = some (.slice none 0 0) := HX3.out.cell 4 (by simp)
      have v4 := HX3.out.frozen 4
      have lt1 := HX3.out.lt
      have lt2 := HR3.out.lt
      go_wp2
      (try simp only [Exit.inBlock, Exit.then])
      refine bodyPost_ret (v := .tuple #[.agg #[.int .i64 k, .int .i64 b, .int .i64 c, .int .i64 e, .slice (some ⟨wx.heap.size, 0, none⟩) n n], .bool true]) ?_ rfl ?_
      · simp only [results, HRES.out]
        go_simp
      · have eo := HOP.out
        simp only [and_self, if_true] at eo
        subst eo
        refine ⟨some ⟨wx.heap.size, 0, none⟩, n, n, rfl, Row1.of_Own (HP.out.keep (S := [w1.heap.size, w.heap.size + 1]) (by (repeat' refine Only.set ?_ (.inl (by simp)) _); exact Only.refl _ _) (by simp; omega)) (by simpa using HLEN.out) (Nat.le_refl _) (by unfold maxLen; omega), ?_⟩
        (repeat' refine Only.set ?_ (.inr (by first | (simp; done) | (simp; omega) | omega)) _)
        exact HO3.out

set_option maxRecDepth 100000 in
set_option maxHeartbeats 8000000 in
theorem ref_frame_for_any (v s k b c e : Int) (A : Option Addr) (n cp : Nat) (xs : List UInt8) (w : World) (hi : Bys w A n cp xs) (hn : n ≤ 1000000) :
    Calls Try.prog 52 #[.int .i64 v, .int .i64 s, .agg #[.int .i64 k, .int .i64 b, .int .i64 c, .int .i64 e, .slice A n cp]] w (FrSaysB w (frFor v s ⟨k, b, c, e, xs⟩)) := by
  have hlen := hi.len
  rw [bvs_length] at hlen
  have hres : Try.f52.results = #[.cell 6 64, .tmp 7] := by kernel_rfl
  have HRES := Lib.hid hres
  obtain ⟨mm, hmm⟩ : ∃ mm, frMay ⟨k, v, s, b, c, e, 0, xs⟩ = mm := ⟨_, rfl⟩
  obtain ⟨wi, hwi⟩ : ∃ wi, decide (1 ≤ k ∧ k ≤ 3) = wi := ⟨_, rfl⟩
  have hop : frFor v s ⟨k, b, c, e, xs⟩ = if mm = true ∧ wi = true then some ⟨k, v, s, b, c, e, 0, xs⟩ else none := by
    unfold frFor
    dsimp only
    rw [hmm]
    cases mm
    · simp
    · have := frMay_in hmm
      dsimp only at this
      rw [hwi] at this
      by_cases h : wi = true
      · rw [if_pos ⟨rfl, this.1 h⟩, if_pos ⟨rfl, h⟩]
      · rw [if_neg (fun q => h (this.2 q.2)), if_neg (fun q => h q.2)]
  obtain ⟨oo, hoo⟩ : ∃ oo, frFor v s ⟨k, b, c, e, xs⟩ = oo := ⟨_, rfl⟩
  rw [hoo] at hop ⊢
  have HOP := Lib.hid hop
  have HMM := Lib.hid hmm
  have HWI := Lib.hid hwi
  have HLEN := Lib.hid hlen
  have hs1 : (w.alloc (.cells #[.int .i64 k, .int .i64 b, .int .i64 c, .int .i64 e, .slice A n cp] 78)).heap.size = w.heap.size + 1 := by simp
  have hs2 : ((w.alloc (.cells #[.int .i64 k, .int .i64 b, .int .i64 c, .int .i64 e, .slice A n cp] 78)).alloc (.cells #[.int .i64 0, .int .i64 0, .int .i64 0, .int .i64 0, .int .i64 0, .int .i64 0, .int .i64 0, .slice none 0 0] 64)).heap.size = w.heap.size + 1 + 1 := by simp
  have HBX := (((Boxes.nil w).new #[.int .i64 k, .int .i64 b, .int .i64 c, .int .i64 e, .slice A n cp] 78).new #[.int .i64 0, .int .i64 0, .int .i64 0, .int .i64 0, .int .i64 0, .int .i64 0, .int .i64 0, .slice none 0 0] 64).new #[.int .i64 k, .int .i64 v, .int .i64 s, .int .i64 b, .int .i64 c, .int .i64 e, .int .i64 0, .slice none 0 0] 64
  rw [hs2, hs1] at HBX
  have HB0 := Lib.hid HBX
  have HI0 := Lib.hid (((hi.alloc (.cells #[.int .i64 k, .int .i64 b, .int .i64 c, .int .i64 e, .slice A n cp] 78)).alloc (.cells #[.int .i64 0, .int .i64 0, .int .i64 0, .int .i64 0, .int .i64 0, .int .i64 0, .int .i64 0, .slice none 0 0] 64)).alloc (.cells #[.int .i64 k, .int .i64 v, .int .i64 s, .int .i64 b, .int .i64 c, .int .i64 e, .int .i64 0, .slice none 0 0] 64))
  have HO0 := Lib.hid ((((Only.refl [] w).alloc (.cells #[.int .i64 k, .int .i64 b, .int .i64 c, .int .i64 e, .slice A n cp] 78)).alloc (.cells #[.int .i64 0, .int .i64 0, .int .i64 0, .int .i64 0, .int .i64 0, .int .i64 0, .int .i64 0, .slice none 0 0] 64)).alloc (.cells #[.int .i64 k, .int .i64 v, .int .i64 s, .int .i64 b, .int .i64 c, .int .i64 e, .int .i64 0, .slice none 0 0] 64))
  clear hres hi hmm hwi hop hoo hlen HBX hs1 hs2
  have key : wi = false ∨ (wi = true ∧ mm = false) ∨ (wi = true ∧ mm = true) := by cases mm <;> cases wi <;> simp
  have hne1 : ¬ (w.heap.size + 1 = w.heap.size) := by omega
  have hne2 : ¬ (w.heap.size = w.heap.size + 1) := by omega
  go_enter Try.func52, Try.ntmps52
  go_upto_region 2 with (fail)
  refine opaqueW (F := Code.wp _ _ _ _) ?_
  intro wx hwx
  have hB : Boxes wx _ := hwx ▸ HB0.out
  have hI : Bys wx A n cp xs := hwx ▸ HI0.out
  have hO : Only [] w wx := hwx ▸ HO0.out
  clear hwx HB0 HI0 HO0
  have HB := Lib.hid hB
  have HI := Lib.hid hI
  have HO := Lib.hid hO
  clear hB hI hO
  have Bx := HB.out (w.heap.size, [.int .i64 k, .int .i64 b, .int .i64 c, .int .i64 e, .slice A n cp]) (by simp)
  have x0 := Bx.cell 0 (by simp)
  have x1 := Bx.cell 1 (by simp)
  have x2 := Bx.cell 2 (by simp)
  have x3 := Bx.cell 3 (by simp)
  have x4 := Bx.cell 4 (by simp)
  simp only [List.getElem_cons_zero, List.getElem_cons_succ] at x0 x1 x2 x3 x4
  have lto := Bx.lt
  clear Bx
  rcases Nat.eq_zero_or_pos n with h0 | h0
  · subst h0
    obtain rfl : xs = [] := List.eq_nil_of_length_eq_zero HLEN.out
    have Bf := HB.out (w.heap.size + 1 + 1, [.int .i64 k, .int .i64 v, .int .i64 s, .int .i64 b, .int .i64 c, .int .i64 e, .int .i64 0, .slice none 0 0]) (by simp)
    have f0 := Bf.cell 0 (by simp)
    have f1 := Bf.cell 1 (by simp)
    have f2 := Bf.cell 2 (by simp)
    have f3 := Bf.cell 3 (by simp)
    have f4 := Bf.cell 4 (by simp)
    have f5 := Bf.cell 5 (by simp)
    have f6 := Bf.cell 6 (by simp)
    have f7 := Bf.cell 7 (by simp)
    simp only [List.getElem_cons_zero, List.getElem_cons_succ] at f0 f1 f2 f3 f4 f5 f6 f7
    have Bt := HB.out (w.heap.size + 1, [.int .i64 0, .int .i64 0, .int .i64 0, .int .i64 0, .int .i64 0, .int .i64 0, .int .i64 0, .slice none 0 0]) (by simp)
    have t0 := Bt.cell 0 (by simp)
    have t1 := Bt.cell 1 (by simp)
    have t2 := Bt.cell 2 (by simp)
    have t3 := Bt.cell 3 (by simp)
    have t4 := Bt.cell 4 (by simp)
    have t5 := Bt.cell 5 (by simp)
    have t6 := Bt.cell 6 (by simp)
    have t7 := Bt.cell 7 (by simp)
    simp only [List.getElem_cons_zero, List.getElem_cons_succ] at t0 t1 t2 t3 t4 t5 t6 t7
    have u0 := Bt.frozen 0
    have u1 := Bt.frozen 1
    have u2 := Bt.frozen 2
    have u3 := Bt.frozen 3
    have u4 := Bt.frozen 4
    have u5 := Bt.frozen 5
    have u6 := Bt.frozen 6
    have u7 := Bt.frozen 7
    clear Bf Bt
    rcases key with rfl | ⟨rfl, rfl⟩ | ⟨rfl, rfl⟩
    · go_wp2_with (first | (go_at_call 105; refine (within_any _ _ _ _).mono ?_; rintro e w' ⟨rfl, rfl⟩; rw [HWI.out]))
      (try simp only [Exit.inBlock, Exit.then])
      refine bodyPost_ret (v := .tuple #[.agg #[.int .i64 0, .int .i64 0, .int .i64 0, .int .i64 0, .int .i64 0, .int .i64 0, .int .i64 0, .slice none 0 0], .bool false]) ?_ rfl ?_
      · simp only [results, HRES.out]
        go_simp
      · refine FrSaysB.no (by rw [HOP.out]; simp) ?_
        (repeat' refine Only.set ?_ (.inr (by first | (simp; done) | (simp; omega) | omega)) _)
        exact HO.out
    · go_wp2_with (first | (go_at_call 105; refine (within_any _ _ _ _).mono ?_; rintro e w' ⟨rfl, rfl⟩; rw [HWI.out]) | fail)
      refine (ref_frame_may_any k v s b c e 0 _ _ _ [] _ (by exact Row1.nil _)).mono ?_
      rintro en w5 ⟨rfl, hO5⟩
      rw [HMM.out]
      have HB5 := Lib.hid (HB.out.keep0 hO5)
      have HO5 := Lib.hid (HO.out.trans' hO5)
      clear hO5 f0 f1 f2 f3 f4 f5 f6 f7 t0 t1 t2 t3 t4 t5 t6 t7 u0 u1 u2 u3 u4 u5 u6 u7 x0 x1 x2 x3 x4
      have Bf := HB5.out (w.heap.size + 1 + 1, [.int .i64 k, .int .i64 v, .int .i64 s, .int .i64 b, .int .i64 c, .int .i64 e, .int .i64 0, .slice none 0 0]) (by simp)
      have f0 := Bf.cell 0 (by simp)
      have f1 := Bf.cell 1 (by simp)
      have f2 := Bf.cell 2 (by simp)
      have f3 := Bf.cell 3 (by simp)
      have f4 := Bf.cell 4 (by simp)
      have f5 := Bf.cell 5 (by simp)
      have f6 := Bf.cell 6 (by simp)
      have f7 := Bf.cell 7 (by simp)
      simp only [List.getElem_cons_zero, List.getElem_cons_succ] at f0 f1 f2 f3 f4 f5 f6 f7
      have Bt := HB5.out (w.heap.size + 1, [.int .i64 0, .int .i64 0, .int .i64 0, .int .i64 0, .int .i64 0, .int .i64 0, .int .i64 0, .slice none 0 0]) (by simp)
      have t0 := Bt.cell 0 (by simp)
      have t1 := Bt.cell 1 (by simp)
      have t2 := Bt.cell 2 (by simp)
      have t3 := Bt.cell 3 (by simp)
      have t4 := Bt.cell 4 (by simp)
      have t5 := Bt.cell 5 (by simp)
      have t6 := Bt.cell 6 (by simp)
      have t7 := Bt.cell 7 (by simp)
      simp only [List.getElem_cons_zero, List.getElem_cons_succ] at t0 t1 t2 t3 t4 t5 t6 t7
      have u0 := Bt.frozen 0
      have u1 := Bt.frozen 1
      have u2 := Bt.frozen 2
      have u3 := Bt.frozen 3
      have u4 := Bt.frozen 4
      have u5 := Bt.frozen 5
      have u6 := Bt.frozen 6
      have u7 := Bt.frozen 7
      have lt5 := Bf.lt
      clear Bf Bt
      go_wp2
      (try simp only [Exit.inBlock, Exit.then])
      refine bodyPost_ret (v := .tuple #[.agg #[.int .i64 0, .int .i64 0, .int .i64 0, .int .i64 0, .int .i64 0, .int .i64 0, .int .i64 0, .slice none 0 0], .bool false]) ?_ rfl ?_
      · simp only [results, HRES.out]
        go_simp
      · refine FrSaysB.no (by rw [HOP.out]; simp) ?_
        (repeat' refine Only.set ?_ (.inr (by first | (simp; done) | (simp; omega) | omega)) _)
        exact HO5.out
    · go_wp2_with (first | (go_at_call 105; refine (within_any _ _ _ _).mono ?_; rintro e w' ⟨rfl, rfl⟩; rw [HWI.out]) | fail)
      refine (ref_frame_may_any k v s b c e 0 _ _ _ [] _ (by exact Row1.nil _)).mono ?_
      rintro en w5 ⟨rfl, hO5⟩
      rw [HMM.out]
      have HB5 := Lib.hid (HB.out.keep0 hO5)
      have HO5 := Lib.hid (HO.out.trans' hO5)
      clear hO5 f0 f1 f2 f3 f4 f5 f6 f7 t0 t1 t2 t3 t4 t5 t6 t7 u0 u1 u2 u3 u4 u5 u6 u7 x0 x1 x2 x3 x4
      have Bf := HB5.out (w.heap.size + 1 + 1, [.int .i64 k, .int .i64 v, .int .i64 s, .int .i64 b, .int .i64 c, .int .i64 e, .int .i64 0, .slice none 0 0]) (by simp)
      have f0 := Bf.cell 0 (by simp)
      have f1 := Bf.cell 1 (by simp)
      have f2 := Bf.cell 2 (by simp)
      have f3 := Bf.cell 3 (by simp)
      have f4 := Bf.cell 4 (by simp)
      have f5 := Bf.cell 5 (by simp)
      have f6 := Bf.cell 6 (by simp)
      have f7 := Bf.cell 7 (by simp)
      simp only [List.getElem_cons_zero, List.getElem_cons_succ] at f0 f1 f2 f3 f4 f5 f6 f7
      have Bt := HB5.out (w.heap.size + 1, [.int .i64 0, .int .i64 0, .int .i64 0, .int .i64 0, .int .i64 0, .int .i64 0, .int .i64 0, .slice none 0 0]) (by simp)
      have t0 := Bt.cell 0 (by simp)
      have t1 := Bt.cell 1 (by simp)
      have t2 := Bt.cell 2 (by simp)
      have t3 := Bt.cell 3 (by simp)
      have t4 := Bt.cell 4 (by simp)
      have t5 := Bt.cell 5 (by simp)
      have t6 := Bt.cell 6 (by simp)
      have t7 := Bt.cell 7 (by simp)
      simp only [List.getElem_cons_zero, List.getElem_cons_succ] at t0 t1 t2 t3 t4 t5 t6 t7
      have u0 := Bt.frozen 0
      have u1 := Bt.frozen 1
      have u2 := Bt.frozen 2
      have u3 := Bt.frozen 3
      have u4 := Bt.frozen 4
      have u5 := Bt.frozen 5
      have u6 := Bt.frozen 6
      have u7 := Bt.frozen 7
      have lt5 := Bf.lt
      clear Bf Bt
      go_wp2
      (try simp only [Exit.inBlock, Exit.then])
      refine bodyPost_ret (v := .tuple #[.agg #[.int .i64 k, .int .i64 v, .int .i64 s, .int .i64 b, .int .i64 c, .int .i64 e, .int .i64 0, .slice none 0 0], .bool true]) ?_ rfl ?_
      · simp only [results, HRES.out]
        go_simp
      · have eo := HOP.out
        simp only [and_self, if_true] at eo
        subst eo
        refine ⟨none, 0, 0, rfl, Row1.nil _, ?_⟩
        (repeat' refine Only.set ?_ (.inr (by first | (simp; done) | (simp; omega) | omega)) _)
        exact HO5.out

  · have hd : decide (0 < (n : Int)) = true := by simp; omega
    have g7 : wx.cell? ⟨w.heap.size + 1 + 1, 7, none⟩ = some (.slice none 0 0) := (HB.out (w.heap.size + 1 + 1, [.int .i64 k, .int .i64 v, .int .i64 s, .int .i64 b, .int .i64 c, .int .i64 e, .int .i64 0, .slice none 0 0]) (by simp)).cell 7 (by simp)
    have m7 : wx.frozen? ⟨w.heap.size + 1 + 1, 7, none⟩ = false := (HB.out (w.heap.size + 1 + 1, [.int .i64 k, .int .i64 v, .int .i64 s, .int .i64 b, .int .i64 c, .int .i64 e, .int .i64 0, .slice none 0 0]) (by simp)).frozen 7
    go_wp2_with fail
    refine (part_any A n cp xs 0 n n _ (by exact HI.out) (by omega) (by omega) (by simp)).mono ?_
    rintro en w3 ⟨rfl, ho3, hO3⟩
    have hxs : (xs.drop 0).take n = xs := by rw [List.drop_zero, List.take_of_length_le (by have := HLEN.out; omega)]
    rw [hxs] at ho3
    have HB3 := Lib.hid (HB.out.keep0 hO3)
    have HP := Lib.hid ho3
    have HO3 := Lib.hid (HO.out.trans' hO3)
    have hsz : w.heap.size + 1 + 1 < wx.heap.size := (HB.out (w.heap.size + 1 + 1, [.int .i64 k, .int .i64 v, .int .i64 s, .int .i64 b, .int .i64 c, .int .i64 e, .int .i64 0, .slice none 0 0]) (by simp)).lt
    clear ho3 hO3 hxs x0 x1 x2 x3 x4 g7 m7
    have g7 : w3.cell? ⟨w.heap.size + 1 + 1, 7, none⟩ = some (.slice none 0 0) := (HB3.out (w.heap.size + 1 + 1, [.int .i64 k, .int .i64 v, .int .i64 s, .int .i64 b, .int .i64 c, .int .i64 e, .int .i64 0, .slice none 0 0]) (by simp)).cell 7 (by simp)
    have m7 : w3.frozen? ⟨w.heap.size + 1 + 1, 7, none⟩ = false := (HB3.out (w.heap.size + 1 + 1, [.int .i64 k, .int .i64 v, .int .i64 s, .int .i64 b, .int .i64 c, .int .i64 e, .int .i64 0, .slice none 0 0]) (by simp)).frozen 7
    go_upto_region 4 with (fail)
    refine opaqueW (F := Code.wp _ _ _ _) ?_
    intro wy hwy
    have hOy : Only [w.heap.size + 1 + 1] w3 wy := by
      rw [hwy]
      exact (Only.refl _ _).set (.inl (by simp)) _
    have hFy : Own wy (w.heap.size + 1 + 1) [.int .i64 k, .int .i64 v, .int .i64 s, .int .i64 b, .int .i64 c, .int .i64 e, .int .i64 0, .slice (some ⟨wx.heap.size, 0, none⟩) n n] := by
      rw [hwy]
      exact (HB3.out (w.heap.size + 1 + 1, [.int .i64 k, .int .i64 v, .int .i64 s, .int .i64 b, .int .i64 c, .int .i64 e, .int .i64 0, .slice none 0 0]) (by simp)).set 7 _
    have hBy : Boxes wy [(w.heap.size + 1 + 1, [.int .i64 k, .int .i64 v, .int .i64 s, .int .i64 b, .int .i64 c, .int .i64 e, .int .i64 0, .slice (some ⟨wx.heap.size, 0, none⟩) n n]), (w.heap.size + 1, [.int .i64 0, .int .i64 0, .int .i64 0, .int .i64 0, .int .i64 0, .int .i64 0, .int .i64 0, .slice none 0 0]), (w.heap.size, [.int .i64 k, .int .i64 b, .int .i64 c, .int .i64 e, .slice A n cp])] :=
      Boxes.cons hFy (Boxes.cons ((HB3.out (w.heap.size + 1, [.int .i64 0, .int .i64 0, .int .i64 0, .int .i64 0, .int .i64 0, .int .i64 0, .int .i64 0, .slice none 0 0]) (by simp)).keep hOy (by simp <;> omega)) (Boxes.cons ((HB3.out (w.heap.size, [.int .i64 k, .int .i64 b, .int .i64 c, .int .i64 e, .slice A n cp]) (by simp)).keep hOy (by simp <;> omega)) (Boxes.nil _)))
    have hPy : Own wy wx.heap.size (bvs xs) := HP.out.keep hOy (by simp; omega)
    have hWy : Only [] w wy := by
      rw [hwy]
      exact HO3.out.set (.inr (by simp <;> omega)) _
    have HBY := Lib.hid hBy
    have HPY := Lib.hid hPy
    have HOY := Lib.hid hWy
    clear hwy hOy hFy hBy hPy hWy g7 m7 HB3 HP HO3 HB HO HI
    have Bx := HBY.out (w.heap.size, [.int .i64 k, .int .i64 b, .int .i64 c, .int .i64 e, .slice A n cp]) (by simp)
    have x0 := Bx.cell 0 (by simp)
    have x1 := Bx.cell 1 (by simp)
    have x2 := Bx.cell 2 (by simp)
    have x3 := Bx.cell 3 (by simp)
    have x4 := Bx.cell 4 (by simp)
    simp only [List.getElem_cons_zero, List.getElem_cons_succ] at x0 x1 x2 x3 x4
    clear Bx
    have Bf := HBY.out (w.heap.size + 1 + 1, [.int .i64 k, .int .i64 v, .int .i64 s, .int .i64 b, .int .i64 c, .int .i64 e, .int .i64 0, .slice (some ⟨wx.heap.size, 0, none⟩) n n]) (by simp)
    have f0 := Bf.cell 0 (by simp)
    have f1 := Bf.cell 1 (by simp)
    have f2 := Bf.cell 2 (by simp)
    have f3 := Bf.cell 3 (by simp)
    have f4 := Bf.cell 4 (by simp)
    have f5 := Bf.cell 5 (by simp)
    have f6 := Bf.cell 6 (by simp)
    have f7 := Bf.cell 7 (by simp)
    simp only [List.getElem_cons_zero, List.getElem_cons_succ] at f0 f1 f2 f3 f4 f5 f6 f7
    have Bt := HBY.out (w.heap.size + 1, [.int .i64 0, .int .i64 0, .int .i64 0, .int .i64 0, .int .i64 0, .int .i64 0, .int .i64 0, .slice none 0 0]) (by simp)
    have t0 := Bt.cell 0 (by simp)
    have t1 := Bt.cell 1 (by simp)
    have t2 := Bt.cell 2 (by simp)
    have t3 := Bt.cell 3 (by simp)
    have t4 := Bt.cell 4 (by simp)
    have t5 := Bt.cell 5 (by simp)
    have t6 := Bt.cell 6 (by simp)
    have t7 := Bt.cell 7 (by simp)
    simp only [List.getElem_cons_zero, List.getElem_cons_succ] at t0 t1 t2 t3 t4 t5 t6 t7
    have u0 := Bt.frozen 0
    have u1 := Bt.frozen 1
    have u2 := Bt.frozen 2
    have u3 := Bt.frozen 3
    have u4 := Bt.frozen 4
    have u5 := Bt.frozen 5
    have u6 := Bt.frozen 6
    have u7 := Bt.frozen 7
    clear Bf Bt
    rcases key with rfl | ⟨rfl, rfl⟩ | ⟨rfl, rfl⟩
    · go_wp2_with (first | (go_at_call 105; refine (within_any _ _ _ _).mono ?_; rintro e w' ⟨rfl, rfl⟩; rw [HWI.out]))
      (try simp only [Exit.inBlock, Exit.then])
      refine bodyPost_ret (v := .tuple #[.agg #[.int .i64 0, .int .i64 0, .int .i64 0, .int .i64 0, .int .i64 0, .int .i64 0, .int .i64 0, .slice none 0 0], .bool false]) ?_ rfl ?_
      · simp only [results, HRES.out]
        go_simp
      · refine FrSaysB.no (by rw [HOP.out]; simp) ?_
        (repeat' refine Only.set ?_ (.inr (by first | (simp; done) | (simp; omega) | omega)) _)
        exact HOY.out
    · go_wp2_with (first | (go_at_call 105; refine (within_any _ _ _ _).mono ?_; rintro e w' ⟨rfl, rfl⟩; rw [HWI.out]) | fail)
      refine (ref_frame_may_any k v s b c e 0 _ _ _ xs _ (by exact Row1.of_Own HPY.out (by simpa using HLEN.out) (Nat.le_refl _) (by unfold maxLen; omega))).mono ?_
      rintro en w5 ⟨rfl, hO5⟩
      rw [HMM.out]
      have HB5 := Lib.hid (HBY.out.keep0 hO5)
      have HO5 := Lib.hid (HOY.out.trans' hO5)
      have HP5 := Lib.hid (HPY.out.keep0 hO5)
      clear hO5 f0 f1 f2 f3 f4 f5 f6 f7 t0 t1 t2 t3 t4 t5 t6 t7 u0 u1 u2 u3 u4 u5 u6 u7 x0 x1 x2 x3 x4
      have Bf := HB5.out (w.heap.size + 1 + 1, [.int .i64 k, .int .i64 v, .int .i64 s, .int .i64 b, .int .i64 c, .int .i64 e, .int .i64 0, .slice (some ⟨wx.heap.size, 0, none⟩) n n]) (by simp)
      have f0 := Bf.cell 0 (by simp)
      have f1 := Bf.cell 1 (by simp)
      have f2 := Bf.cell 2 (by simp)
      have f3 := Bf.cell 3 (by simp)
      have f4 := Bf.cell 4 (by simp)
      have f5 := Bf.cell 5 (by simp)
      have f6 := Bf.cell 6 (by simp)
      have f7 := Bf.cell 7 (by simp)
      simp only [List.getElem_cons_zero, List.getElem_cons_succ] at f0 f1 f2 f3 f4 f5 f6 f7
      have Bt := HB5.out (w.heap.size + 1, [.int .i64 0, .int .i64 0, .int .i64 0, .int .i64 0, .int .i64 0, .int .i64 0, .int .i64 0, .slice none 0 0]) (by simp)
      have t0 := Bt.cell 0 (by simp)
      have t1 := Bt.cell 1 (by simp)
      have t2 := Bt.cell 2 (by simp)
      have t3 := Bt.cell 3 (by simp)
      have t4 := Bt.cell 4 (by simp)
      have t5 := Bt.cell 5 (by simp)
      have t6 := Bt.cell 6 (by simp)
      have t7 := Bt.cell 7 (by simp)
      simp only [List.getElem_cons_zero, List.getElem_cons_succ] at t0 t1 t2 t3 t4 t5 t6 t7
      have u0 := Bt.frozen 0
      have u1 := Bt.frozen 1
      have u2 := Bt.frozen 2
      have u3 := Bt.frozen 3
      have u4 := Bt.frozen 4
      have u5 := Bt.frozen 5
      have u6 := Bt.frozen 6
      have u7 := Bt.frozen 7
      have lt5 := Bf.lt
      clear Bf Bt
      go_wp2
      (try simp only [Exit.inBlock, Exit.then])
      refine bodyPost_ret (v := .tuple #[.agg #[.int .i64 0, .int .i64 0, .int .i64 0, .int .i64 0, .int .i64 0, .int .i64 0, .int .i64 0, .slice none 0 0], .bool false]) ?_ rfl ?_
      · simp only [results, HRES.out]
        go_simp
      · refine FrSaysB.no (by rw [HOP.out]; simp) ?_
        (repeat' refine Only.set ?_ (.inr (by first | (simp; done) | (simp; omega) | omega)) _)
        exact HO5.out
    · go_wp2_with (first | (go_at_call 105; refine (within_any _ _ _ _).mono ?_; rintro e w' ⟨rfl, rfl⟩; rw [HWI.out]) | fail)
      refine (ref_frame_may_any k v s b c e 0 _ _ _ xs _ (by exact Row1.of_Own HPY.out (by simpa using HLEN.out) (Nat.le_refl _) (by unfold maxLen; omega))).mono ?_
      rintro en w5 ⟨rfl, hO5⟩
      rw [HMM.out]
      have HB5 := Lib.hid (HBY.out.keep0 hO5)
      have HO5 := Lib.hid (HOY.out.trans' hO5)
      have HP5 := Lib.hid (HPY.out.keep0 hO5)
      clear hO5 f0 f1 f2 f3 f4 f5 f6 f7 t0 t1 t2 t3 t4 t5 t6 t7 u0 u1 u2 u3 u4 u5 u6 u7 x0 x1 x2 x3 x4
      have Bf := HB5.out (w.heap.size + 1 + 1, [.int .i64 k, .int .i64 v, .int .i64 s, .int .i64 b, .int .i64 c, .int .i64 e, .int .i64 0, .slice (some ⟨wx.heap.size, 0, none⟩) n n]) (by simp)
      have f0 := Bf.cell 0 (by simp)
      have f1 := Bf.cell 1 (by simp)
      have f2 := Bf.cell 2 (by simp)
      have f3 := Bf.cell 3 (by simp)
      have f4 := Bf.cell 4 (by simp)
      have f5 := Bf.cell 5 (by simp)
      have f6 := Bf.cell 6 (by simp)
      have f7 := Bf.cell 7 (by simp)
      simp only [List.getElem_cons_zero, List.getElem_cons_succ] at f0 f1 f2 f3 f4 f5 f6 f7
      have Bt := HB5.out (w.heap.size + 1, [.int .i64 0, .int .i64 0, .int .i64 0, .int .i64 0, .int .i64 0, .int .i64 0, .int .i64 0, .slice none 0 0]) (by simp)
      have t0 := Bt.cell 0 (by simp)
      have t1 := Bt.cell 1 (by simp)
      have t2 := Bt.cell 2 (by simp)
      have t3 := Bt.cell 3 (by simp)
      have t4 := Bt.cell 4 (by simp)
      have t5 := Bt.cell 5 (by simp)
      have t6 := Bt.cell 6 (by simp)
      have t7 := Bt.cell 7 (by simp)
      simp only [List.getElem_cons_zero, List.getElem_cons_succ] at t0 t1 t2 t3 t4 t5 t6 t7
      have u0 := Bt.frozen 0
      have u1 := Bt.frozen 1
      have u2 := Bt.frozen 2
      have u3 := Bt.frozen 3
      have u4 := Bt.frozen 4
      have u5 := Bt.frozen 5
      have u6 := Bt.frozen 6
      have u7 := Bt.frozen 7
      have lt5 := Bf.lt
      clear Bf Bt
      go_wp2
      (try simp only [Exit.inBlock, Exit.then])
      refine bodyPost_ret (v := .tuple #[.agg #[.int .i64 k, .int .i64 v, .int .i64 s, .int .i64 b, .int .i64 c, .int .i64 e, .int .i64 0, .slice (some ⟨wx.heap.size, 0, none⟩) n n], .bool true]) ?_ rfl ?_
      · simp only [results, HRES.out]
        go_simp
      · have eo := HOP.out
        simp only [and_self, if_true] at eo
        subst eo
        refine ⟨(some ⟨wx.heap.size, 0, none⟩), n, n, rfl, Row1.of_Own (HP5.out.keep (S := [w.heap.size + 1]) (by (repeat' refine Only.set ?_ (.inl (by simp)) _); exact Only.refl _ _) (by simp; omega)) (by simpa using HLEN.out) (Nat.le_refl _) (by unfold maxLen; omega), ?_⟩
        (repeat' refine Only.set ?_ (.inr (by first | (simp; done) | (simp; omega) | omega)) _)
        exact HO5.out

end Go.Proofs.Ytjmbhknokobnpaa
