/- Claim SuperChooses. -/
import Derived.Test.YtjmbhknokobnpaaEnter
import Derived.Test.YtjmbhknokobnpaaLaw5B
import Derived.Test.YtjmbhknokobnpaaTurnW
import Derived.Test.YtjmbhknokobnpaaFrameU
import Derived.Deep.RegionHeld3
import Derived.Deep.DeepCutAuto
set_option linter.unusedVariables false
set_option linter.unusedSimpArgs false
namespace Go.Kn
open Go Go.RowKit
theorem bits_andc (z : Int) (m : Nat) (hm : m < 4) : bits .and .i64 z (m : Int) = (((z % 4).toNat &&& m : Nat) : Int) := by
  have h1 : (BitVec.ofInt 64 (m : Int)).toNat = m := by rw [BitVec.ofInt_natCast, BitVec.toNat_ofNat]; omega
  show IntKind.i64.wrap ((BitVec.ofInt 64 z &&& BitVec.ofInt 64 (m : Int)).toNat : Int) = _
  have h2 : m = 3 &&& m := by
    have : ∀ m : Fin 4, m.val = 3 &&& m.val := by decide
    exact this ⟨m, hm⟩
  have h3 : (BitVec.ofInt 64 z).toNat &&& m = (z % 4).toNat &&& m := by
    conv => lhs; rw [h2, ← Nat.and_assoc]
    congr 1
    rw [show 3 = 2 ^ 2 - 1 from rfl, Nat.and_two_pow_sub_one_eq_mod, BitVec.toNat_ofInt]
    omega
  have h4 : (z % 4).toNat &&& m ≤ m := Nat.and_le_right
  rw [BitVec.toNat_and, h1, h3, IntKind.wrap_i64]
  omega
theorem turnB_one (bs : List UInt8) (first lim : Nat) (h : first < lim) : ∀ k, turnB bs first lim 1 (k + 1) = flipAt bs first
  | 0 => by simp [turnB, h]
  | k + 1 => by
    have ih := turnB_one bs first lim h k
    rw [turnB, if_neg, ih]
    rintro ⟨h1, _⟩
    rw [Nat.testBit_succ] at h1
    simp at h1
theorem super_flipped {bs : List UInt8} (hb : bs.length = 64) (hc : Closed bs 60) : decSuper (flipAt bs 160) = none := by
  have h := super_turned (first := 160) (pat := 1) hb hc ((turnA_iff _ _ _ _).2 ⟨0, by decide, by decide, by decide⟩)
  rwa [turnB_one bs 160 _ (by decide) 31] at h
theorem flip_one (c : UInt8) : bits .xor .u8 (c.toNat : Int) 1 = ((UInt8.ofNat (c.toNat ^^^ 2 ^ 0)).toNat : Int) := by
  have := flip_byte c 0 (by decide)
  simpa using this
theorem Own.flip {w : World} {g : Nat} {bs : List UInt8} (h : Own w g (bvs bs)) (hl : bs.length = 64) : ∃ ob nb : Int, w.cell? ⟨g, 20, none⟩ = some (.int .u8 ob) ∧ w.frozen? ⟨g, 20, none⟩ = false ∧ bits .xor .u8 ob 1 = nb ∧ Own (w.setCell ⟨g, 20, none⟩ (.int .u8 nb)) g (bvs (flipAt bs 160)) := by
  have hj : 20 < bs.length := by omega
  refine ⟨_, _, ?_, h.frozen 20, flip_one bs[20], ?_⟩
  · have := h.cell 20 (by simpa using hj)
    rwa [bvs_get] at this
  · have h1 := h.set 20 (.int .u8 ((UInt8.ofNat (bs[20].toNat ^^^ 2 ^ 0)).toNat : Int))
    have e : (bvs bs).set 20 (.int .u8 ((UInt8.ofNat (bs[20].toNat ^^^ 2 ^ 0)).toNat : Int)) = bvs (flipAt bs 160) := by
      unfold flipAt bvs
      rw [List.map_set, List.getD_eq_getElem?_getD, show 160 / 8 = 20 from rfl, show 160 % 8 = 0 from rfl, List.getElem?_eq_getElem hj, Option.getD_some]
    rwa [e] at h1
/-- two boxes of five cells of the call's own, in two slots -/
def TwoBoxes (w : World) (x0 x1 x2 x3 x4 y0 y1 y2 y3 y4 : Value) (s t : Value) (wx : World) : Prop :=
  ∃ b c : Nat, s = .pointer (some ⟨b, 0, none⟩) ∧ t = .pointer (some ⟨c, 0, none⟩) ∧ wx.cell? ⟨b, 0, none⟩ = some x0 ∧ wx.cell? ⟨b, 1, none⟩ = some x1 ∧ wx.cell? ⟨b, 2, none⟩ = some x2 ∧ wx.cell? ⟨b, 3, none⟩ = some x3 ∧ wx.cell? ⟨b, 4, none⟩ = some x4 ∧ wx.cell? ⟨c, 0, none⟩ = some y0 ∧ wx.cell? ⟨c, 1, none⟩ = some y1 ∧ wx.cell? ⟨c, 2, none⟩ = some y2 ∧ wx.cell? ⟨c, 3, none⟩ = some y3 ∧ wx.cell? ⟨c, 4, none⟩ = some y4 ∧ Only [] w wx
theorem twoA {w w2 : World} {t : TypeId} {x0 x1 x2 x3 x4 y0 y1 y2 y3 y4 : Value} (hO : Only [] w w2) : TwoBoxes w x0 x1 x2 x3 x4 y0 y1 y2 y3 y4 (.pointer (some ⟨w2.heap.size, 0, none⟩)) (.pointer (some ⟨w2.heap.size + 1, 0, none⟩)) ((w2.alloc (.cells #[x0, x1, x2, x3, x4] t)).alloc (.cells #[y0, y1, y2, y3, y4] t)) := by
  have hs : (w2.alloc (.cells #[x0, x1, x2, x3, x4] t)).heap.size = w2.heap.size + 1 := by simp
  have h1 : Own ((w2.alloc (.cells #[x0, x1, x2, x3, x4] t)).alloc (.cells #[y0, y1, y2, y3, y4] t)) w2.heap.size [x0, x1, x2, x3, x4] := (Own.new w2 #[x0, x1, x2, x3, x4] t).alloc _
  have h2 := Own.new (w2.alloc (.cells #[x0, x1, x2, x3, x4] t)) #[y0, y1, y2, y3, y4] t
  rw [hs] at h2
  have hx := h1
  have hy := h2
  exact ⟨_, _, rfl, rfl, hx.cell 0 (by simp), hx.cell 1 (by simp), hx.cell 2 (by simp), hx.cell 3 (by simp), hx.cell 4 (by simp), hy.cell 0 (by simp), hy.cell 1 (by simp), hy.cell 2 (by simp), hy.cell 3 (by simp), hy.cell 4 (by simp), (hO.alloc _).alloc _⟩
theorem twoA2 {w w2 : World} {t : TypeId} {x0 x1 x2 x3 x4 y0 y1 y2 y3 y4 : Value} (hO : Only [] w w2) : TwoBoxes w x0 x1 x2 x3 x4 y0 y1 y2 y3 y4 (.pointer (some ⟨w2.heap.size + 1, 0, none⟩)) (.pointer (some ⟨w2.heap.size, 0, none⟩)) ((w2.alloc (.cells #[y0, y1, y2, y3, y4] t)).alloc (.cells #[x0, x1, x2, x3, x4] t)) := by
  have hs : (w2.alloc (.cells #[y0, y1, y2, y3, y4] t)).heap.size = w2.heap.size + 1 := by simp
  have h1 : Own ((w2.alloc (.cells #[y0, y1, y2, y3, y4] t)).alloc (.cells #[x0, x1, x2, x3, x4] t)) w2.heap.size [y0, y1, y2, y3, y4] := (Own.new w2 #[y0, y1, y2, y3, y4] t).alloc _
  have h2 := Own.new (w2.alloc (.cells #[y0, y1, y2, y3, y4] t)) #[x0, x1, x2, x3, x4] t
  rw [hs] at h2
  have hx := h2
  have hy := h1
  exact ⟨_, _, rfl, rfl, hx.cell 0 (by simp), hx.cell 1 (by simp), hx.cell 2 (by simp), hx.cell 3 (by simp), hx.cell 4 (by simp), hy.cell 0 (by simp), hy.cell 1 (by simp), hy.cell 2 (by simp), hy.cell 3 (by simp), hy.cell 4 (by simp), (hO.alloc _).alloc _⟩
theorem twoB {w w2 : World} {t : TypeId} {x0 x1 x2 x3 x4 y0 y1 y2 y3 y4 z0 z1 z2 z3 z4 : Value} (hO : Only [] w w2) {g : Nat} (h : Own w2 g [z0, z1, z2, z3, z4]) (hg : w.heap.size ≤ g) : TwoBoxes w x0 x1 x2 x3 x4 y0 y1 y2 y3 y4 (.pointer (some ⟨g, 0, none⟩)) (.pointer (some ⟨w2.heap.size, 0, none⟩)) ((((((w2.setCell ⟨g, 0, none⟩ x0).setCell ⟨g, 1, none⟩ x1).setCell ⟨g, 2, none⟩ x2).setCell ⟨g, 3, none⟩ x3).setCell ⟨g, 4, none⟩ x4).alloc (.cells #[y0, y1, y2, y3, y4] t)) := by
  have hs : (((((w2.setCell ⟨g, 0, none⟩ x0).setCell ⟨g, 1, none⟩ x1).setCell ⟨g, 2, none⟩ x2).setCell ⟨g, 3, none⟩ x3).setCell ⟨g, 4, none⟩ x4).heap.size = w2.heap.size := by simp
  have h1 : Own ((((((w2.setCell ⟨g, 0, none⟩ x0).setCell ⟨g, 1, none⟩ x1).setCell ⟨g, 2, none⟩ x2).setCell ⟨g, 3, none⟩ x3).setCell ⟨g, 4, none⟩ x4).alloc (.cells #[y0, y1, y2, y3, y4] t)) g [x0, x1, x2, x3, x4] := (((((h.set 0 x0).set 1 x1).set 2 x2).set 3 x3).set 4 x4).alloc _
  have h2 := Own.new (((((w2.setCell ⟨g, 0, none⟩ x0).setCell ⟨g, 1, none⟩ x1).setCell ⟨g, 2, none⟩ x2).setCell ⟨g, 3, none⟩ x3).setCell ⟨g, 4, none⟩ x4) #[y0, y1, y2, y3, y4] t
  rw [hs] at h2
  have hx := h1
  have hy := h2
  exact ⟨_, _, rfl, rfl, hx.cell 0 (by simp), hx.cell 1 (by simp), hx.cell 2 (by simp), hx.cell 3 (by simp), hx.cell 4 (by simp), hy.cell 0 (by simp), hy.cell 1 (by simp), hy.cell 2 (by simp), hy.cell 3 (by simp), hy.cell 4 (by simp), (((((hO.set (.inr hg) x0).set (.inr hg) x1).set (.inr hg) x2).set (.inr hg) x3).set (.inr hg) x4).alloc _⟩
theorem twoB2 {w w2 : World} {t : TypeId} {x0 x1 x2 x3 x4 y0 y1 y2 y3 y4 z0 z1 z2 z3 z4 : Value} (hO : Only [] w w2) {g : Nat} (h : Own w2 g [z0, z1, z2, z3, z4]) (hg : w.heap.size ≤ g) : TwoBoxes w x0 x1 x2 x3 x4 y0 y1 y2 y3 y4 (.pointer (some ⟨w2.heap.size, 0, none⟩)) (.pointer (some ⟨g, 0, none⟩)) ((((((w2.setCell ⟨g, 0, none⟩ y0).setCell ⟨g, 1, none⟩ y1).setCell ⟨g, 2, none⟩ y2).setCell ⟨g, 3, none⟩ y3).setCell ⟨g, 4, none⟩ y4).alloc (.cells #[x0, x1, x2, x3, x4] t)) := by
  have hs : (((((w2.setCell ⟨g, 0, none⟩ y0).setCell ⟨g, 1, none⟩ y1).setCell ⟨g, 2, none⟩ y2).setCell ⟨g, 3, none⟩ y3).setCell ⟨g, 4, none⟩ y4).heap.size = w2.heap.size := by simp
  have h1 : Own ((((((w2.setCell ⟨g, 0, none⟩ y0).setCell ⟨g, 1, none⟩ y1).setCell ⟨g, 2, none⟩ y2).setCell ⟨g, 3, none⟩ y3).setCell ⟨g, 4, none⟩ y4).alloc (.cells #[x0, x1, x2, x3, x4] t)) g [y0, y1, y2, y3, y4] := (((((h.set 0 y0).set 1 y1).set 2 y2).set 3 y3).set 4 y4).alloc _
  have h2 := Own.new (((((w2.setCell ⟨g, 0, none⟩ y0).setCell ⟨g, 1, none⟩ y1).setCell ⟨g, 2, none⟩ y2).setCell ⟨g, 3, none⟩ y3).setCell ⟨g, 4, none⟩ y4) #[x0, x1, x2, x3, x4] t
  rw [hs] at h2
  have hx := h2
  have hy := h1
  exact ⟨_, _, rfl, rfl, hx.cell 0 (by simp), hx.cell 1 (by simp), hx.cell 2 (by simp), hx.cell 3 (by simp), hx.cell 4 (by simp), hy.cell 0 (by simp), hy.cell 1 (by simp), hy.cell 2 (by simp), hy.cell 3 (by simp), hy.cell 4 (by simp), (((((hO.set (.inr hg) y0).set (.inr hg) y1).set (.inr hg) y2).set (.inr hg) y3).set (.inr hg) y4).alloc _⟩
theorem twoC {w w2 : World} {x0 x1 x2 x3 x4 y0 y1 y2 y3 y4 z0 z1 z2 z3 z4 : Value} (hO : Only [] w w2) {g k : Nat} (h : Own w2 g [z0, z1, z2, z3, z4]) (h2 : Own w2 k [z0, z1, z2, z3, z4]) (hn : g ≠ k) (hg : w.heap.size ≤ g) (hk : w.heap.size ≤ k) : TwoBoxes w x0 x1 x2 x3 x4 y0 y1 y2 y3 y4 (.pointer (some ⟨g, 0, none⟩)) (.pointer (some ⟨k, 0, none⟩)) ((((((((((w2.setCell ⟨g, 0, none⟩ x0).setCell ⟨g, 1, none⟩ x1).setCell ⟨g, 2, none⟩ x2).setCell ⟨g, 3, none⟩ x3).setCell ⟨g, 4, none⟩ x4).setCell ⟨k, 0, none⟩ y0).setCell ⟨k, 1, none⟩ y1).setCell ⟨k, 2, none⟩ y2).setCell ⟨k, 3, none⟩ y3).setCell ⟨k, 4, none⟩ y4) := by
  have h1 : Own ((((((((((w2.setCell ⟨g, 0, none⟩ x0).setCell ⟨g, 1, none⟩ x1).setCell ⟨g, 2, none⟩ x2).setCell ⟨g, 3, none⟩ x3).setCell ⟨g, 4, none⟩ x4).setCell ⟨k, 0, none⟩ y0).setCell ⟨k, 1, none⟩ y1).setCell ⟨k, 2, none⟩ y2).setCell ⟨k, 3, none⟩ y3).setCell ⟨k, 4, none⟩ y4) g [x0, x1, x2, x3, x4] := ((((((((((h.set 0 x0).set 1 x1).set 2 x2).set 3 x3).set 4 x4).far (p := ⟨k, 0, none⟩) hn.symm y0).far (p := ⟨k, 1, none⟩) hn.symm y1).far (p := ⟨k, 2, none⟩) hn.symm y2).far (p := ⟨k, 3, none⟩) hn.symm y3).far (p := ⟨k, 4, none⟩) hn.symm y4)
  have h3 : Own ((((((((((w2.setCell ⟨g, 0, none⟩ x0).setCell ⟨g, 1, none⟩ x1).setCell ⟨g, 2, none⟩ x2).setCell ⟨g, 3, none⟩ x3).setCell ⟨g, 4, none⟩ x4).setCell ⟨k, 0, none⟩ y0).setCell ⟨k, 1, none⟩ y1).setCell ⟨k, 2, none⟩ y2).setCell ⟨k, 3, none⟩ y3).setCell ⟨k, 4, none⟩ y4) k [y0, y1, y2, y3, y4] := ((((((((((h2.far (p := ⟨g, 0, none⟩) hn x0).far (p := ⟨g, 1, none⟩) hn x1).far (p := ⟨g, 2, none⟩) hn x2).far (p := ⟨g, 3, none⟩) hn x3).far (p := ⟨g, 4, none⟩) hn x4).set 0 y0).set 1 y1).set 2 y2).set 3 y3).set 4 y4)
  have hx := h1
  have hy := h3
  exact ⟨_, _, rfl, rfl, hx.cell 0 (by simp), hx.cell 1 (by simp), hx.cell 2 (by simp), hx.cell 3 (by simp), hx.cell 4 (by simp), hy.cell 0 (by simp), hy.cell 1 (by simp), hy.cell 2 (by simp), hy.cell 3 (by simp), hy.cell 4 (by simp), ((((((((((hO.set (.inr hg) x0).set (.inr hg) x1).set (.inr hg) x2).set (.inr hg) x3).set (.inr hg) x4).set (.inr hk) y0).set (.inr hk) y1).set (.inr hk) y2).set (.inr hk) y3).set (.inr hk) y4)⟩
/-- a world behind a name -/
theorem opaqueW5 {F : World → Prop} {W : World} (h : ∀ w', w' = W → F w') : F W := h W rfl
end Go.Kn
namespace Go.Proofs.Ytjmbhknokobnpaa.superChooses
open Go Go.RowKit Go.Kn Go.ChangeShapes Go.WideShapes Go.ChangeAt

set_option maxRecDepth 100000 in
set_option maxHeartbeats 8000000 in
theorem chooses (z0 z1 z2 p q sp : Int) (w : World) (h0 : (Lit.int .i64 z0).wf = true) (h1 : (Lit.int .i64 z1).wf = true) (h2 : (Lit.int .i64 z2).wf = true) (h3 : (Lit.int .i64 p).wf = true) (h4 : (Lit.int .i64 q).wf = true) :
    Calls Try.prog 4 #[.agg #[.int .i64 z0, .int .i64 z1, .int .i64 z2], .int .i64 p, .int .i64 q, .int .i64 sp] w fun e w' => e = .returned (.bool true) ∧ Only [] w w' := by
  obtain ⟨⟨xb, xs_, xl, xi, xm⟩, hi⟩ : ∃ x, madeSuper z0 z1 z2 1 p = x := ⟨_, rfl⟩
  have hmay := madeSuper_may z0 z1 z2 1 p
  rw [hi] at hmay
  obtain ⟨bx, hb1, hb2, hb3, hb4⟩ := super_back hmay
  obtain ⟨⟨yb, ys_, yl, yi, ym⟩, hj⟩ : ∃ x, madeSuper z0 z1 z2 2 q = x := ⟨_, rfl⟩
  have hmay2 := madeSuper_may z0 z1 z2 2 q
  rw [hj] at hmay2
  obtain ⟨by_, hc1, hc2, hc3, hc4⟩ := super_back hmay2
  have HV := Lib.hid hi
  have HU := Lib.hid hj
  have HB1 := Lib.hid hb1
  have HB2 := Lib.hid hb2
  have HB3 := Lib.hid hb3
  have HB4 := Lib.hid hb4
  have HC1 := Lib.hid hc1
  have HC2 := Lib.hid hc2
  have HC3 := Lib.hid hc3
  have HC4 := Lib.hid hc4
  have H0 := Lib.hid h0
  have H1 := Lib.hid h1
  have H2 := Lib.hid h2
  have H3 := Lib.hid h3
  have H4 := Lib.hid h4
  have HW1 : Hid ((Lit.int .i64 1).wf = true) := Lib.hid (by decide)
  have HW2 : Hid ((Lit.int .i64 2).wf = true) := Lib.hid (by decide)
  have ha1 := bits_andc sp 1 (by decide)
  have ha2 := bits_andc sp 2 (by decide)
  have ha3 := bits_andc sp 3 (by decide)
  rw [show ((1 : Nat) : Int) = 1 from rfl] at ha1
  rw [show ((2 : Nat) : Int) = 2 from rfl] at ha2
  rw [show ((3 : Nat) : Int) = 3 from rfl] at ha3
  have hsp : (z : Nat) → (sp % 4).toNat = z → z < 4 := fun z hz => by omega
  have hs : (sp % 4).toNat = 0 ∨ (sp % 4).toNat = 1 ∨ (sp % 4).toNat = 2 ∨ (sp % 4).toNat = 3 := by omega
  clear hi hj hmay hmay2 hb1 hb2 hb3 hb4 hc1 hc2 hc3 hc4 h0 h1 h2 h3 h4 hsp
  go_enter Try.func4, Try.ntmps4
  go_upto_region 1 with (fail)
  have b0 := Own.new w #[.int .i64 z0, .int .i64 z1, .int .i64 z2] 22
  have HO0 := Lib.hid ((Only.refl [] w).alloc (.cells #[.int .i64 z0, .int .i64 z1, .int .i64 z2] 22))
  generalize hw0 : w.alloc (.cells #[.int .i64 z0, .int .i64 z1, .int .i64 z2] 22) = w0 at *
  clear hw0
  have c0 : w0.cell? ⟨w.heap.size, 0, none⟩ = some (.int .i64 z0) := b0.cell 0 (by simp)
  have c1 : w0.cell? ⟨w.heap.size, 1, none⟩ = some (.int .i64 z1) := b0.cell 1 (by simp)
  have c2 : w0.cell? ⟨w.heap.size, 2, none⟩ = some (.int .i64 z2) := b0.cell 2 (by simp)
  have l0 : w.heap.size < w0.heap.size := b0.lt
  clear b0
  go_cut [9, 10] (fun s9 s10 wx => TwoBoxes w (.int .i64 xb) (.int .i64 xs_) (.int .i64 xl) (.int .i64 xi) (.int .i64 xm) (.int .i64 yb) (.int .i64 ys_) (.int .i64 yl) (.int .i64 yi) (.int .i64 ym) s9 s10 wx)
  case first =>
    have HC : Hid (w0.drew.cell? ⟨w.heap.size, 0, none⟩ = some (.int .i64 z0) ∧ w0.drew.cell? ⟨w.heap.size, 1, none⟩ = some (.int .i64 z1) ∧ w0.drew.cell? ⟨w.heap.size, 2, none⟩ = some (.int .i64 z2)) := Lib.hid ⟨c0, c1, c2⟩
    have a1 : ¬ (w.heap.size = w0.heap.size) := by omega
    have a2 : ¬ (w0.heap.size = w.heap.size) := by omega
    have a4 : ¬ (w.heap.size = w0.heap.size + 1) := by omega
    have a5 : ¬ (w0.heap.size + 1 = w.heap.size) := by omega
    go_region_held3 (fun w' => w'.cell? ⟨w.heap.size, 0, none⟩ = some (.int .i64 z0) ∧ w'.cell? ⟨w.heap.size, 1, none⟩ = some (.int .i64 z1) ∧ w'.cell? ⟨w.heap.size, 2, none⟩ = some (.int .i64 z2))
      (first | with_reducible exact HC.out | with_reducible exact ⟨d0, d1, d2⟩ | with_reducible exact ⟨e0, e1, e2⟩ | go_keep)
      (first
      | (go_at_call 24; refine (made5 z0 z1 z2 _ _ _ H0.out H1.out H2.out (by first | exact HW1.out | exact HW2.out) (by first | exact H3.out | exact H4.out)).mono ?_
         rintro e wn ⟨rfl, hO⟩
         first
         | (rw [HV.out]
            obtain ⟨w1, hw1⟩ : ∃ x, x = wn := ⟨_, rfl⟩
            subst hw1
            simp only [Su.vals]
            have hO1 : Only [] w0 w1 := by
              first
                | with_reducible exact ((Only.refl [] w0).drew).trans' hO
                | with_reducible exact (((Only.refl [] w0).alloc _).drew).trans' hO
                | with_reducible exact ((((Only.refl [] w0).alloc _).alloc _).drew).trans' hO
            have HO1 := Lib.hid hO1
            have hs01 := hO1.size
            have d0 := hO1.cell (p := ⟨w.heap.size, 0, none⟩) c0 (by simp)
            have d1 := hO1.cell (p := ⟨w.heap.size, 1, none⟩) c1 (by simp)
            have d2 := hO1.cell (p := ⟨w.heap.size, 2, none⟩) c2 (by simp)
            first
              | (have hq : Only [] w0.drew w1 := by with_reducible exact hO
                 clear hq)
              | (have hq : Only [] (w0.alloc (.cells #[.int .i64 0, .int .i64 0, .int .i64 0, .int .i64 0, .int .i64 0] 31)).drew w1 := by with_reducible exact hO
                 have hp : Own w1 (w0.heap.size) [.int .i64 0, .int .i64 0, .int .i64 0, .int .i64 0, .int .i64 0] := (Own.new w0 #[.int .i64 0, .int .i64 0, .int .i64 0, .int .i64 0, .int .i64 0] 31).drew.keep0 hq
                 have p0 : w1.cell? ⟨w0.heap.size, 0, none⟩ = some (.int .i64 0) := hp.cell 0 (by simp)
                 have fp0 : w1.frozen? ⟨w0.heap.size, 0, none⟩ = false := hp.frozen 0
                 have p1 : w1.cell? ⟨w0.heap.size, 1, none⟩ = some (.int .i64 0) := hp.cell 1 (by simp)
                 have fp1 : w1.frozen? ⟨w0.heap.size, 1, none⟩ = false := hp.frozen 1
                 have p2 : w1.cell? ⟨w0.heap.size, 2, none⟩ = some (.int .i64 0) := hp.cell 2 (by simp)
                 have fp2 : w1.frozen? ⟨w0.heap.size, 2, none⟩ = false := hp.frozen 2
                 have p3 : w1.cell? ⟨w0.heap.size, 3, none⟩ = some (.int .i64 0) := hp.cell 3 (by simp)
                 have fp3 : w1.frozen? ⟨w0.heap.size, 3, none⟩ = false := hp.frozen 3
                 have p4 : w1.cell? ⟨w0.heap.size, 4, none⟩ = some (.int .i64 0) := hp.cell 4 (by simp)
                 have fp4 : w1.frozen? ⟨w0.heap.size, 4, none⟩ = false := hp.frozen 4
                 have ltp := hp.lt
                 have Hp := Lib.hid hp
                 clear hp
                 clear hq)
              | (have hq : Only [] ((w0.alloc (.cells #[.int .i64 0, .int .i64 0, .int .i64 0, .int .i64 0, .int .i64 0] 31)).alloc (.cells #[.int .i64 0, .int .i64 0, .int .i64 0, .int .i64 0, .int .i64 0] 31)).drew w1 := by with_reducible exact hO
                 have hp : Own w1 (w0.heap.size) [.int .i64 0, .int .i64 0, .int .i64 0, .int .i64 0, .int .i64 0] := ((Own.new w0 #[.int .i64 0, .int .i64 0, .int .i64 0, .int .i64 0, .int .i64 0] 31).alloc (.cells #[.int .i64 0, .int .i64 0, .int .i64 0, .int .i64 0, .int .i64 0] 31)).drew.keep0 hq
                 have p0 : w1.cell? ⟨w0.heap.size, 0, none⟩ = some (.int .i64 0) := hp.cell 0 (by simp)
                 have fp0 : w1.frozen? ⟨w0.heap.size, 0, none⟩ = false := hp.frozen 0
                 have p1 : w1.cell? ⟨w0.heap.size, 1, none⟩ = some (.int .i64 0) := hp.cell 1 (by simp)
                 have fp1 : w1.frozen? ⟨w0.heap.size, 1, none⟩ = false := hp.frozen 1
                 have p2 : w1.cell? ⟨w0.heap.size, 2, none⟩ = some (.int .i64 0) := hp.cell 2 (by simp)
                 have fp2 : w1.frozen? ⟨w0.heap.size, 2, none⟩ = false := hp.frozen 2
                 have p3 : w1.cell? ⟨w0.heap.size, 3, none⟩ = some (.int .i64 0) := hp.cell 3 (by simp)
                 have fp3 : w1.frozen? ⟨w0.heap.size, 3, none⟩ = false := hp.frozen 3
                 have p4 : w1.cell? ⟨w0.heap.size, 4, none⟩ = some (.int .i64 0) := hp.cell 4 (by simp)
                 have fp4 : w1.frozen? ⟨w0.heap.size, 4, none⟩ = false := hp.frozen 4
                 have ltp := hp.lt
                 have Hp := Lib.hid hp
                 clear hp
                 have hs9 : (w0.alloc (.cells #[.int .i64 0, .int .i64 0, .int .i64 0, .int .i64 0, .int .i64 0] 31)).heap.size = w0.heap.size + 1 := by simp
                 have hn9 := Own.new (w0.alloc (.cells #[.int .i64 0, .int .i64 0, .int .i64 0, .int .i64 0, .int .i64 0] 31)) #[.int .i64 0, .int .i64 0, .int .i64 0, .int .i64 0, .int .i64 0] 31
                 rw [hs9] at hn9
                 have hr : Own w1 (w0.heap.size + 1) [.int .i64 0, .int .i64 0, .int .i64 0, .int .i64 0, .int .i64 0] := hn9.drew.keep0 hq
                 have r0 : w1.cell? ⟨w0.heap.size + 1, 0, none⟩ = some (.int .i64 0) := hr.cell 0 (by simp)
                 have fr0 : w1.frozen? ⟨w0.heap.size + 1, 0, none⟩ = false := hr.frozen 0
                 have r1 : w1.cell? ⟨w0.heap.size + 1, 1, none⟩ = some (.int .i64 0) := hr.cell 1 (by simp)
                 have fr1 : w1.frozen? ⟨w0.heap.size + 1, 1, none⟩ = false := hr.frozen 1
                 have r2 : w1.cell? ⟨w0.heap.size + 1, 2, none⟩ = some (.int .i64 0) := hr.cell 2 (by simp)
                 have fr2 : w1.frozen? ⟨w0.heap.size + 1, 2, none⟩ = false := hr.frozen 2
                 have r3 : w1.cell? ⟨w0.heap.size + 1, 3, none⟩ = some (.int .i64 0) := hr.cell 3 (by simp)
                 have fr3 : w1.frozen? ⟨w0.heap.size + 1, 3, none⟩ = false := hr.frozen 3
                 have r4 : w1.cell? ⟨w0.heap.size + 1, 4, none⟩ = some (.int .i64 0) := hr.cell 4 (by simp)
                 have fr4 : w1.frozen? ⟨w0.heap.size + 1, 4, none⟩ = false := hr.frozen 4
                 have ltr := hr.lt
                 have Hr := Lib.hid hr
                 clear hr
                 clear hq hs9 hn9)
            clear hO hO1
            have n1 : ¬ (w.heap.size = w1.heap.size) := by omega
            have n2 : ¬ (w1.heap.size = w.heap.size) := by omega
            have n3 : w.heap.size < w1.heap.size := by omega
            have n4 : ¬ (w.heap.size = w1.heap.size + 1) := by omega
            have n5 : ¬ (w1.heap.size + 1 = w.heap.size) := by omega)
         | (rw [HU.out]
            obtain ⟨w2, hw2⟩ : ∃ x, x = wn := ⟨_, rfl⟩
            subst hw2
            simp only [Su.vals]
            have hO2 : Only [] w1 w2 := by
              first
                | with_reducible exact hO
                | with_reducible exact ((Only.refl [] w1).alloc _).trans' hO
                | with_reducible exact (((Only.refl [] w1).alloc _).alloc _).trans' hO
            have HO2 := Lib.hid hO2
            have hs12 := hO2.size
            have e0 := hO2.cell (p := ⟨w.heap.size, 0, none⟩) d0 (by simp)
            have e1 := hO2.cell (p := ⟨w.heap.size, 1, none⟩) d1 (by simp)
            have e2 := hO2.cell (p := ⟨w.heap.size, 2, none⟩) d2 (by simp)
            try (have hp := Hp.out.keep0 hO2
                 clear p0 fp0 p1 fp1 p2 fp2 p3 fp3 p4 fp4
                 have p0 : w2.cell? ⟨w0.heap.size, 0, none⟩ = some (.int .i64 0) := hp.cell 0 (by simp)
                 have fp0 : w2.frozen? ⟨w0.heap.size, 0, none⟩ = false := hp.frozen 0
                 have p1 : w2.cell? ⟨w0.heap.size, 1, none⟩ = some (.int .i64 0) := hp.cell 1 (by simp)
                 have fp1 : w2.frozen? ⟨w0.heap.size, 1, none⟩ = false := hp.frozen 1
                 have p2 : w2.cell? ⟨w0.heap.size, 2, none⟩ = some (.int .i64 0) := hp.cell 2 (by simp)
                 have fp2 : w2.frozen? ⟨w0.heap.size, 2, none⟩ = false := hp.frozen 2
                 have p3 : w2.cell? ⟨w0.heap.size, 3, none⟩ = some (.int .i64 0) := hp.cell 3 (by simp)
                 have fp3 : w2.frozen? ⟨w0.heap.size, 3, none⟩ = false := hp.frozen 3
                 have p4 : w2.cell? ⟨w0.heap.size, 4, none⟩ = some (.int .i64 0) := hp.cell 4 (by simp)
                 have fp4 : w2.frozen? ⟨w0.heap.size, 4, none⟩ = false := hp.frozen 4
                 have gp : ¬ (w0.heap.size = w1.heap.size) := by omega
                 have kp : ¬ (w1.heap.size = w0.heap.size) := by omega
                 have lp := hp.lt
                 replace Hp := Lib.hid hp
                 clear hp)
            try (have hr := Hr.out.keep0 hO2
                 clear r0 fr0 r1 fr1 r2 fr2 r3 fr3 r4 fr4
                 have r0 : w2.cell? ⟨w0.heap.size + 1, 0, none⟩ = some (.int .i64 0) := hr.cell 0 (by simp)
                 have fr0 : w2.frozen? ⟨w0.heap.size + 1, 0, none⟩ = false := hr.frozen 0
                 have r1 : w2.cell? ⟨w0.heap.size + 1, 1, none⟩ = some (.int .i64 0) := hr.cell 1 (by simp)
                 have fr1 : w2.frozen? ⟨w0.heap.size + 1, 1, none⟩ = false := hr.frozen 1
                 have r2 : w2.cell? ⟨w0.heap.size + 1, 2, none⟩ = some (.int .i64 0) := hr.cell 2 (by simp)
                 have fr2 : w2.frozen? ⟨w0.heap.size + 1, 2, none⟩ = false := hr.frozen 2
                 have r3 : w2.cell? ⟨w0.heap.size + 1, 3, none⟩ = some (.int .i64 0) := hr.cell 3 (by simp)
                 have fr3 : w2.frozen? ⟨w0.heap.size + 1, 3, none⟩ = false := hr.frozen 3
                 have r4 : w2.cell? ⟨w0.heap.size + 1, 4, none⟩ = some (.int .i64 0) := hr.cell 4 (by simp)
                 have fr4 : w2.frozen? ⟨w0.heap.size + 1, 4, none⟩ = false := hr.frozen 4
                 have gr : ¬ (w0.heap.size + 1 = w1.heap.size) := by omega
                 have kr : ¬ (w1.heap.size = w0.heap.size + 1) := by omega
                 have lr := hr.lt
                 replace Hr := Lib.hid hr
                 clear hr)
            first
              | (have hq : Only [] w1 w2 := by with_reducible exact hO
                 clear hq)
              | (have hq : Only [] (w1.alloc (.cells #[.int .i64 0, .int .i64 0, .int .i64 0, .int .i64 0, .int .i64 0] 31)) w2 := by with_reducible exact hO
                 have hs : Own w2 (w1.heap.size) [.int .i64 0, .int .i64 0, .int .i64 0, .int .i64 0, .int .i64 0] := (Own.new w1 #[.int .i64 0, .int .i64 0, .int .i64 0, .int .i64 0, .int .i64 0] 31).keep0 hq
                 have s0 : w2.cell? ⟨w1.heap.size, 0, none⟩ = some (.int .i64 0) := hs.cell 0 (by simp)
                 have fs0 : w2.frozen? ⟨w1.heap.size, 0, none⟩ = false := hs.frozen 0
                 have s1 : w2.cell? ⟨w1.heap.size, 1, none⟩ = some (.int .i64 0) := hs.cell 1 (by simp)
                 have fs1 : w2.frozen? ⟨w1.heap.size, 1, none⟩ = false := hs.frozen 1
                 have s2 : w2.cell? ⟨w1.heap.size, 2, none⟩ = some (.int .i64 0) := hs.cell 2 (by simp)
                 have fs2 : w2.frozen? ⟨w1.heap.size, 2, none⟩ = false := hs.frozen 2
                 have s3 : w2.cell? ⟨w1.heap.size, 3, none⟩ = some (.int .i64 0) := hs.cell 3 (by simp)
                 have fs3 : w2.frozen? ⟨w1.heap.size, 3, none⟩ = false := hs.frozen 3
                 have s4 : w2.cell? ⟨w1.heap.size, 4, none⟩ = some (.int .i64 0) := hs.cell 4 (by simp)
                 have fs4 : w2.frozen? ⟨w1.heap.size, 4, none⟩ = false := hs.frozen 4
                 have lts := hs.lt
                 have Hs := Lib.hid hs
                 clear hs
                 clear hq)
              | (have hq : Only [] ((w1.alloc (.cells #[.int .i64 0, .int .i64 0, .int .i64 0, .int .i64 0, .int .i64 0] 31)).alloc (.cells #[.int .i64 0, .int .i64 0, .int .i64 0, .int .i64 0, .int .i64 0] 31)) w2 := by with_reducible exact hO
                 have hs : Own w2 (w1.heap.size) [.int .i64 0, .int .i64 0, .int .i64 0, .int .i64 0, .int .i64 0] := ((Own.new w1 #[.int .i64 0, .int .i64 0, .int .i64 0, .int .i64 0, .int .i64 0] 31).alloc (.cells #[.int .i64 0, .int .i64 0, .int .i64 0, .int .i64 0, .int .i64 0] 31)).keep0 hq
                 have s0 : w2.cell? ⟨w1.heap.size, 0, none⟩ = some (.int .i64 0) := hs.cell 0 (by simp)
                 have fs0 : w2.frozen? ⟨w1.heap.size, 0, none⟩ = false := hs.frozen 0
                 have s1 : w2.cell? ⟨w1.heap.size, 1, none⟩ = some (.int .i64 0) := hs.cell 1 (by simp)
                 have fs1 : w2.frozen? ⟨w1.heap.size, 1, none⟩ = false := hs.frozen 1
                 have s2 : w2.cell? ⟨w1.heap.size, 2, none⟩ = some (.int .i64 0) := hs.cell 2 (by simp)
                 have fs2 : w2.frozen? ⟨w1.heap.size, 2, none⟩ = false := hs.frozen 2
                 have s3 : w2.cell? ⟨w1.heap.size, 3, none⟩ = some (.int .i64 0) := hs.cell 3 (by simp)
                 have fs3 : w2.frozen? ⟨w1.heap.size, 3, none⟩ = false := hs.frozen 3
                 have s4 : w2.cell? ⟨w1.heap.size, 4, none⟩ = some (.int .i64 0) := hs.cell 4 (by simp)
                 have fs4 : w2.frozen? ⟨w1.heap.size, 4, none⟩ = false := hs.frozen 4
                 have lts := hs.lt
                 have Hs := Lib.hid hs
                 clear hs
                 have hs9 : (w1.alloc (.cells #[.int .i64 0, .int .i64 0, .int .i64 0, .int .i64 0, .int .i64 0] 31)).heap.size = w1.heap.size + 1 := by simp
                 have hn9 := Own.new (w1.alloc (.cells #[.int .i64 0, .int .i64 0, .int .i64 0, .int .i64 0, .int .i64 0] 31)) #[.int .i64 0, .int .i64 0, .int .i64 0, .int .i64 0, .int .i64 0] 31
                 rw [hs9] at hn9
                 have ht : Own w2 (w1.heap.size + 1) [.int .i64 0, .int .i64 0, .int .i64 0, .int .i64 0, .int .i64 0] := hn9.keep0 hq
                 have t0 : w2.cell? ⟨w1.heap.size + 1, 0, none⟩ = some (.int .i64 0) := ht.cell 0 (by simp)
                 have ft0 : w2.frozen? ⟨w1.heap.size + 1, 0, none⟩ = false := ht.frozen 0
                 have t1 : w2.cell? ⟨w1.heap.size + 1, 1, none⟩ = some (.int .i64 0) := ht.cell 1 (by simp)
                 have ft1 : w2.frozen? ⟨w1.heap.size + 1, 1, none⟩ = false := ht.frozen 1
                 have t2 : w2.cell? ⟨w1.heap.size + 1, 2, none⟩ = some (.int .i64 0) := ht.cell 2 (by simp)
                 have ft2 : w2.frozen? ⟨w1.heap.size + 1, 2, none⟩ = false := ht.frozen 2
                 have t3 : w2.cell? ⟨w1.heap.size + 1, 3, none⟩ = some (.int .i64 0) := ht.cell 3 (by simp)
                 have ft3 : w2.frozen? ⟨w1.heap.size + 1, 3, none⟩ = false := ht.frozen 3
                 have t4 : w2.cell? ⟨w1.heap.size + 1, 4, none⟩ = some (.int .i64 0) := ht.cell 4 (by simp)
                 have ft4 : w2.frozen? ⟨w1.heap.size + 1, 4, none⟩ = false := ht.frozen 4
                 have ltt := ht.lt
                 have Ht := Lib.hid ht
                 clear ht
                 clear hq hs9 hn9)
            clear hO hO2
            have m1 : ¬ (w.heap.size = w2.heap.size) := by omega
            have m2 : ¬ (w2.heap.size = w.heap.size) := by omega
            have m3 : w.heap.size < w2.heap.size := by omega
            have m4 : ¬ (w.heap.size = w2.heap.size + 1) := by omega
            have m5 : ¬ (w2.heap.size + 1 = w.heap.size) := by omega)))
    all_goals
      go_wp2
      go_meet
      case rel =>
        have hW := HO0.out.trans' (HO1.out.trans' HO2.out)
        first
          | with_reducible exact twoA hW
          | with_reducible exact twoA2 hW
          | with_reducible exact twoB hW Hp.out (by omega)
          | with_reducible exact twoB2 hW Hp.out (by omega)
          | with_reducible exact twoB hW Hs.out (by omega)
          | with_reducible exact twoB2 hW Hs.out (by omega)
          | ((with_reducible refine twoC hW Hs.out Ht.out ?_ ?_ ?_) <;> omega)
          | ((with_reducible refine twoC hW Ht.out Hs.out ?_ ?_ ?_) <;> omega)
          | ((with_reducible refine twoC hW Hp.out Hs.out ?_ ?_ ?_) <;> omega)
          | ((with_reducible refine twoC hW Hs.out Hp.out ?_ ?_ ?_) <;> omega)
          | ((with_reducible refine twoC hW Hp.out Hr.out ?_ ?_ ?_) <;> omega)
          | ((with_reducible refine twoC hW Hr.out Hp.out ?_ ?_ ?_) <;> omega)
  case rest =>
    obtain ⟨b9, b10, rfl, rfl, x0, x1, x2, x3, x4, y0, y1, y2, y3, y4, hOc⟩ := hcut
    have HOc := Lib.hid hOc
    have l9 := lt_of_cell x0
    have l10 := lt_of_cell y0
    clear hOc c0 c1 c2
    go_wp2_with fail
    refine (super_enc_own xb xs_ xl xi xm _).mono ?_
    intro e w3 he
    rw [HB1.out] at he
    obtain ⟨gx, cx, rfl, hcx, hmcx, hgx, ho, hO⟩ := he.of_some
    rw [HB2.out] at hcx ⊢
    have HGX := Lib.hid ho
    replace x0 := hO.cell x0 (by simp)
    replace x1 := hO.cell x1 (by simp)
    replace x2 := hO.cell x2 (by simp)
    replace x3 := hO.cell x3 (by simp)
    replace x4 := hO.cell x4 (by simp)
    replace y0 := hO.cell y0 (by simp)
    replace y1 := hO.cell y1 (by simp)
    replace y2 := hO.cell y2 (by simp)
    replace y3 := hO.cell y3 (by simp)
    replace y4 := hO.cell y4 (by simp)
    have HO3 := Lib.hid (HOc.out.trans' hO)
    have lgx := ho.lt
    have hs3 := hO.size
    clear he ho hO
    go_wp2_with fail
    refine (super_enc_own yb ys_ yl yi ym _).mono ?_
    intro e w4 he
    rw [HC1.out] at he
    obtain ⟨gy, cy, rfl, hcy, hmcy, hgy, ho, hO⟩ := he.of_some
    rw [HC2.out] at hcy ⊢
    have HGY := Lib.hid ho
    replace x0 := hO.cell x0 (by simp)
    replace x1 := hO.cell x1 (by simp)
    replace x2 := hO.cell x2 (by simp)
    replace x3 := hO.cell x3 (by simp)
    replace x4 := hO.cell x4 (by simp)
    replace y0 := hO.cell y0 (by simp)
    replace y1 := hO.cell y1 (by simp)
    replace y2 := hO.cell y2 (by simp)
    replace y3 := hO.cell y3 (by simp)
    replace y4 := hO.cell y4 (by simp)
    have HO4 := Lib.hid (HO3.out.trans' hO)
    have HGX4 := Lib.hid (HGX.out.keep0 hO)
    have hsw := HOc.out.size
    clear he ho hO HGX HO3
    have e1 : ¬ (gx = b9) := by omega
    have e2 : ¬ (b9 = gx) := by omega
    have e3 : ¬ (gx = b10) := by omega
    have e4 : ¬ (b10 = gx) := by omega
    have e5 : ¬ (gy = b9) := by omega
    have e6 : ¬ (b9 = gy) := by omega
    have e7 : ¬ (gy = b10) := by omega
    have e8 : ¬ (b10 = gy) := by omega
    have e9 : ¬ (gx = gy) := by omega
    have e10 : ¬ (gy = gx) := by omega
    have wgx : w.heap.size ≤ gx := by omega
    have wgy : w.heap.size ≤ gy := by omega
    rcases hs with hs | hs | hs | hs
    · rw [hs] at ha1 ha2 ha3
      replace ha1 : bits .and .i64 sp 1 = 0 := ha1
      replace ha2 : bits .and .i64 sp 2 = 0 := ha2
      replace ha3 : bits .and .i64 sp 3 = 0 := ha3
      clear hs
      go_upto_region 8 with (fail)
      go_upto_region 10 with (fail)
      have HDX : Hid (decSuper bx = some ⟨xb, xs_, xl, xi, xm⟩) := HB4
      have HDY : Hid (decSuper by_ = some ⟨yb, ys_, yl, yi, ym⟩) := HC4
      have hlx : bx.length = 64 := by exact HB2.out
      have hly : by_.length = 64 := by exact HC2.out
      by_cases hm : ym ≤ xm
      · have hdm : decide (xm < ym) = false := decide_eq_false (by omega)
        have hp : superPick (decSuper bx) (decSuper by_) = (⟨xb, xs_, xl, xi, xm⟩, 0, 0) := by rw [HDX.out, HDY.out]; simp only [superPick]; rw [if_pos hm]
        have HP := Lib.hid hp
        clear hp
        go_wp2_with fail
        refine (super_choose_any (some ⟨gx, 0, none⟩) 64 cx bx (some ⟨gy, 0, none⟩) 64 cy by_ _ (by exact Row1.of_Own HGX4.out (by simp [hlx]) hcx hmcx) (by exact Row1.of_Own HGY.out (by simp [hly]) hcy hmcy) (by decide) (by decide)).mono ?_
        rintro e w7 ⟨rfl, hO7⟩
        rw [HP.out]
        simp only [Su.vals]
        have HO7 := Lib.hid (HO4.out.trans' hO7)
        have l7 := hO7.size
        have l97 : b9 < w7.heap.size := lt_of_cell (hO7.cell x0 (by simp))
        have l107 : b10 < w7.heap.size := lt_of_cell (hO7.cell y0 (by simp))
        replace x0 := hO7.cell x0 (by simp)
        replace x1 := hO7.cell x1 (by simp)
        replace x2 := hO7.cell x2 (by simp)
        replace x3 := hO7.cell x3 (by simp)
        replace x4 := hO7.cell x4 (by simp)
        replace y0 := hO7.cell y0 (by simp)
        replace y1 := hO7.cell y1 (by simp)
        replace y2 := hO7.cell y2 (by simp)
        replace y3 := hO7.cell y3 (by simp)
        replace y4 := hO7.cell y4 (by simp)
        clear hO7
        go_wp2_with fail
        refine (awake5 _).mono ?_
        rintro e w8 ⟨rfl, hO8⟩
        have HO8 := Lib.hid ((HO7.out.alloc (.cells #[.int .i64 xb, .int .i64 xs_, .int .i64 xl, .int .i64 xi, .int .i64 xm] 31)).trans' hO8)
        go_wp2
        go_ret
        exact ⟨rfl, HO8.out⟩
      · have hdm : decide (xm < ym) = true := decide_eq_true (by omega)
        have hp : superPick (decSuper bx) (decSuper by_) = (⟨yb, ys_, yl, yi, ym⟩, 1, 0) := by rw [HDX.out, HDY.out]; simp only [superPick]; rw [if_neg hm]
        have HP := Lib.hid hp
        clear hp
        go_wp2_with fail
        refine (super_choose_any (some ⟨gx, 0, none⟩) 64 cx bx (some ⟨gy, 0, none⟩) 64 cy by_ _ (by exact Row1.of_Own HGX4.out (by simp [hlx]) hcx hmcx) (by exact Row1.of_Own HGY.out (by simp [hly]) hcy hmcy) (by decide) (by decide)).mono ?_
        rintro e w7 ⟨rfl, hO7⟩
        rw [HP.out]
        simp only [Su.vals]
        have HO7 := Lib.hid (HO4.out.trans' hO7)
        have l7 := hO7.size
        have l97 : b9 < w7.heap.size := lt_of_cell (hO7.cell x0 (by simp))
        have l107 : b10 < w7.heap.size := lt_of_cell (hO7.cell y0 (by simp))
        replace x0 := hO7.cell x0 (by simp)
        replace x1 := hO7.cell x1 (by simp)
        replace x2 := hO7.cell x2 (by simp)
        replace x3 := hO7.cell x3 (by simp)
        replace x4 := hO7.cell x4 (by simp)
        replace y0 := hO7.cell y0 (by simp)
        replace y1 := hO7.cell y1 (by simp)
        replace y2 := hO7.cell y2 (by simp)
        replace y3 := hO7.cell y3 (by simp)
        replace y4 := hO7.cell y4 (by simp)
        clear hO7
        go_wp2_with fail
        refine (awake5 _).mono ?_
        rintro e w8 ⟨rfl, hO8⟩
        have HO8 := Lib.hid ((HO7.out.alloc (.cells #[.int .i64 yb, .int .i64 ys_, .int .i64 yl, .int .i64 yi, .int .i64 ym] 31)).trans' hO8)
        go_wp2
        go_ret
        exact ⟨rfl, HO8.out⟩
    · rw [hs] at ha1 ha2 ha3
      replace ha1 : bits .and .i64 sp 1 = 1 := ha1
      replace ha2 : bits .and .i64 sp 2 = 0 := ha2
      replace ha3 : bits .and .i64 sp 3 = 1 := ha3
      clear hs
      obtain ⟨ob8, nb8, q81, q82, q83, hf8⟩ := HGX4.out.flip HB2.out
      go_upto_region 8 with (fail)
      refine opaqueW5 (F := Code.wp _ _ _ _) ?_
      intro w5 hw
      have hOz : Only [gx] w4 w5 := by
        rw [hw]
        exact (Only.refl _ _).set (.inl (by simp)) _
      have HGX5 : Hid (Own w5 gx (bvs (flipAt bx 160))) := Lib.hid (by rw [hw]; exact hf8)
      have HGY5 := Lib.hid (HGY.out.keep hOz (by simp; omega))
      have HO5 := Lib.hid (HO4.out.trans hOz (fun i hi => .inr (by simp at hi; omega)))
      replace x0 := hOz.cell x0 (by simp; omega)
      replace x1 := hOz.cell x1 (by simp; omega)
      replace x2 := hOz.cell x2 (by simp; omega)
      replace x3 := hOz.cell x3 (by simp; omega)
      replace x4 := hOz.cell x4 (by simp; omega)
      replace y0 := hOz.cell y0 (by simp; omega)
      replace y1 := hOz.cell y1 (by simp; omega)
      replace y2 := hOz.cell y2 (by simp; omega)
      replace y3 := hOz.cell y3 (by simp; omega)
      replace y4 := hOz.cell y4 (by simp; omega)
      clear hw hOz q81 q82 q83 hf8
      go_upto_region 10 with (fail)
      have HDX : Hid (decSuper (flipAt bx 160) = none) := Lib.hid (super_flipped HB2.out HB3.out)
      have HDY : Hid (decSuper by_ = some ⟨yb, ys_, yl, yi, ym⟩) := HC4
      have hlx : (flipAt bx 160).length = 64 := by simp [flipAt, HB2.out]
      have hly : by_.length = 64 := by exact HC2.out
      have hp : superPick (decSuper (flipAt bx 160)) (decSuper by_) = (⟨yb, ys_, yl, yi, ym⟩, 1, 0) := by rw [HDX.out, HDY.out]; rfl
      have HP := Lib.hid hp
      clear hp
      go_wp2_with fail
      refine (super_choose_any (some ⟨gx, 0, none⟩) 64 cx (flipAt bx 160) (some ⟨gy, 0, none⟩) 64 cy by_ _ (by exact Row1.of_Own HGX5.out (by simp [hlx]) hcx hmcx) (by exact Row1.of_Own HGY5.out (by simp [hly]) hcy hmcy) (by decide) (by decide)).mono ?_
      rintro e w7 ⟨rfl, hO7⟩
      rw [HP.out]
      simp only [Su.vals]
      have HO7 := Lib.hid (HO5.out.trans' hO7)
      have l7 := hO7.size
      have l97 : b9 < w7.heap.size := lt_of_cell (hO7.cell x0 (by simp))
      have l107 : b10 < w7.heap.size := lt_of_cell (hO7.cell y0 (by simp))
      replace x0 := hO7.cell x0 (by simp)
      replace x1 := hO7.cell x1 (by simp)
      replace x2 := hO7.cell x2 (by simp)
      replace x3 := hO7.cell x3 (by simp)
      replace x4 := hO7.cell x4 (by simp)
      replace y0 := hO7.cell y0 (by simp)
      replace y1 := hO7.cell y1 (by simp)
      replace y2 := hO7.cell y2 (by simp)
      replace y3 := hO7.cell y3 (by simp)
      replace y4 := hO7.cell y4 (by simp)
      clear hO7
      go_wp2_with fail
      refine (awake5 _).mono ?_
      rintro e w8 ⟨rfl, hO8⟩
      have HO8 := Lib.hid ((HO7.out.alloc (.cells #[.int .i64 yb, .int .i64 ys_, .int .i64 yl, .int .i64 yi, .int .i64 ym] 31)).trans' hO8)
      go_wp2
      go_ret
      exact ⟨rfl, HO8.out⟩
    · rw [hs] at ha1 ha2 ha3
      replace ha1 : bits .and .i64 sp 1 = 0 := ha1
      replace ha2 : bits .and .i64 sp 2 = 2 := ha2
      replace ha3 : bits .and .i64 sp 3 = 2 := ha3
      clear hs
      go_upto_region 8 with (fail)
      obtain ⟨ob10, nb10, q101, q102, q103, hf10⟩ := HGY.out.flip HC2.out
      go_upto_region 10 with (fail)
      refine opaqueW5 (F := Code.wp _ _ _ _) ?_
      intro w6 hw
      have hOz : Only [gy] w4 w6 := by
        rw [hw]
        exact (Only.refl _ _).set (.inl (by simp)) _
      have HGY6 : Hid (Own w6 gy (bvs (flipAt by_ 160))) := Lib.hid (by rw [hw]; exact hf10)
      have HGX6 := Lib.hid (HGX4.out.keep hOz (by simp; omega))
      have HO6 := Lib.hid (HO4.out.trans hOz (fun i hi => .inr (by simp at hi; omega)))
      replace x0 := hOz.cell x0 (by simp; omega)
      replace x1 := hOz.cell x1 (by simp; omega)
      replace x2 := hOz.cell x2 (by simp; omega)
      replace x3 := hOz.cell x3 (by simp; omega)
      replace x4 := hOz.cell x4 (by simp; omega)
      replace y0 := hOz.cell y0 (by simp; omega)
      replace y1 := hOz.cell y1 (by simp; omega)
      replace y2 := hOz.cell y2 (by simp; omega)
      replace y3 := hOz.cell y3 (by simp; omega)
      replace y4 := hOz.cell y4 (by simp; omega)
      clear hw hOz q101 q102 q103 hf10
      have HDX : Hid (decSuper bx = some ⟨xb, xs_, xl, xi, xm⟩) := HB4
      have HDY : Hid (decSuper (flipAt by_ 160) = none) := Lib.hid (super_flipped HC2.out HC3.out)
      have hlx : bx.length = 64 := by exact HB2.out
      have hly : (flipAt by_ 160).length = 64 := by simp [flipAt, HC2.out]
      have hp : superPick (decSuper bx) (decSuper (flipAt by_ 160)) = (⟨xb, xs_, xl, xi, xm⟩, 0, 0) := by rw [HDX.out, HDY.out]; rfl
      have HP := Lib.hid hp
      clear hp
      go_wp2_with fail
      refine (super_choose_any (some ⟨gx, 0, none⟩) 64 cx bx (some ⟨gy, 0, none⟩) 64 cy (flipAt by_ 160) _ (by exact Row1.of_Own HGX6.out (by simp [hlx]) hcx hmcx) (by exact Row1.of_Own HGY6.out (by simp [hly]) hcy hmcy) (by decide) (by decide)).mono ?_
      rintro e w7 ⟨rfl, hO7⟩
      rw [HP.out]
      simp only [Su.vals]
      have HO7 := Lib.hid (HO6.out.trans' hO7)
      have l7 := hO7.size
      have l97 : b9 < w7.heap.size := lt_of_cell (hO7.cell x0 (by simp))
      have l107 : b10 < w7.heap.size := lt_of_cell (hO7.cell y0 (by simp))
      replace x0 := hO7.cell x0 (by simp)
      replace x1 := hO7.cell x1 (by simp)
      replace x2 := hO7.cell x2 (by simp)
      replace x3 := hO7.cell x3 (by simp)
      replace x4 := hO7.cell x4 (by simp)
      replace y0 := hO7.cell y0 (by simp)
      replace y1 := hO7.cell y1 (by simp)
      replace y2 := hO7.cell y2 (by simp)
      replace y3 := hO7.cell y3 (by simp)
      replace y4 := hO7.cell y4 (by simp)
      clear hO7
      go_wp2_with fail
      refine (awake5 _).mono ?_
      rintro e w8 ⟨rfl, hO8⟩
      have HO8 := Lib.hid ((HO7.out.alloc (.cells #[.int .i64 xb, .int .i64 xs_, .int .i64 xl, .int .i64 xi, .int .i64 xm] 31)).trans' hO8)
      go_wp2
      go_ret
      exact ⟨rfl, HO8.out⟩
    · rw [hs] at ha1 ha2 ha3
      replace ha1 : bits .and .i64 sp 1 = 1 := ha1
      replace ha2 : bits .and .i64 sp 2 = 2 := ha2
      replace ha3 : bits .and .i64 sp 3 = 3 := ha3
      clear hs
      obtain ⟨ob8, nb8, q81, q82, q83, hf8⟩ := HGX4.out.flip HB2.out
      go_upto_region 8 with (fail)
      refine opaqueW5 (F := Code.wp _ _ _ _) ?_
      intro w5 hw
      have hOz : Only [gx] w4 w5 := by
        rw [hw]
        exact (Only.refl _ _).set (.inl (by simp)) _
      have HGX5 : Hid (Own w5 gx (bvs (flipAt bx 160))) := Lib.hid (by rw [hw]; exact hf8)
      have HGY5 := Lib.hid (HGY.out.keep hOz (by simp; omega))
      have HO5 := Lib.hid (HO4.out.trans hOz (fun i hi => .inr (by simp at hi; omega)))
      replace x0 := hOz.cell x0 (by simp; omega)
      replace x1 := hOz.cell x1 (by simp; omega)
      replace x2 := hOz.cell x2 (by simp; omega)
      replace x3 := hOz.cell x3 (by simp; omega)
      replace x4 := hOz.cell x4 (by simp; omega)
      replace y0 := hOz.cell y0 (by simp; omega)
      replace y1 := hOz.cell y1 (by simp; omega)
      replace y2 := hOz.cell y2 (by simp; omega)
      replace y3 := hOz.cell y3 (by simp; omega)
      replace y4 := hOz.cell y4 (by simp; omega)
      clear hw hOz q81 q82 q83 hf8
      obtain ⟨ob10, nb10, q101, q102, q103, hf10⟩ := HGY5.out.flip HC2.out
      go_upto_region 10 with (fail)
      refine opaqueW5 (F := Code.wp _ _ _ _) ?_
      intro w6 hw
      have hOz : Only [gy] w5 w6 := by
        rw [hw]
        exact (Only.refl _ _).set (.inl (by simp)) _
      have HGY6 : Hid (Own w6 gy (bvs (flipAt by_ 160))) := Lib.hid (by rw [hw]; exact hf10)
      have HGX6 := Lib.hid (HGX5.out.keep hOz (by simp; omega))
      have HO6 := Lib.hid (HO5.out.trans hOz (fun i hi => .inr (by simp at hi; omega)))
      replace x0 := hOz.cell x0 (by simp; omega)
      replace x1 := hOz.cell x1 (by simp; omega)
      replace x2 := hOz.cell x2 (by simp; omega)
      replace x3 := hOz.cell x3 (by simp; omega)
      replace x4 := hOz.cell x4 (by simp; omega)
      replace y0 := hOz.cell y0 (by simp; omega)
      replace y1 := hOz.cell y1 (by simp; omega)
      replace y2 := hOz.cell y2 (by simp; omega)
      replace y3 := hOz.cell y3 (by simp; omega)
      replace y4 := hOz.cell y4 (by simp; omega)
      clear hw hOz q101 q102 q103 hf10
      have HDX : Hid (decSuper (flipAt bx 160) = none) := Lib.hid (super_flipped HB2.out HB3.out)
      have HDY : Hid (decSuper (flipAt by_ 160) = none) := Lib.hid (super_flipped HC2.out HC3.out)
      have hlx : (flipAt bx 160).length = 64 := by simp [flipAt, HB2.out]
      have hly : (flipAt by_ 160).length = 64 := by simp [flipAt, HC2.out]
      have hp : superPick (decSuper (flipAt bx 160)) (decSuper (flipAt by_ 160)) = (⟨0, 0, 0, 0, 0⟩, 0, 2) := by rw [HDX.out, HDY.out]; rfl
      have HP := Lib.hid hp
      clear hp
      go_wp2_with fail
      refine (super_choose_any (some ⟨gx, 0, none⟩) 64 cx (flipAt bx 160) (some ⟨gy, 0, none⟩) 64 cy (flipAt by_ 160) _ (by exact Row1.of_Own HGX6.out (by simp [hlx]) hcx hmcx) (by exact Row1.of_Own HGY6.out (by simp [hly]) hcy hmcy) (by decide) (by decide)).mono ?_
      rintro e w7 ⟨rfl, hO7⟩
      rw [HP.out]
      simp only [Su.vals]
      have HO7 := Lib.hid (HO6.out.trans' hO7)
      have l7 := hO7.size
      have l97 : b9 < w7.heap.size := lt_of_cell (hO7.cell x0 (by simp))
      have l107 : b10 < w7.heap.size := lt_of_cell (hO7.cell y0 (by simp))
      replace x0 := hO7.cell x0 (by simp)
      replace x1 := hO7.cell x1 (by simp)
      replace x2 := hO7.cell x2 (by simp)
      replace x3 := hO7.cell x3 (by simp)
      replace x4 := hO7.cell x4 (by simp)
      replace y0 := hO7.cell y0 (by simp)
      replace y1 := hO7.cell y1 (by simp)
      replace y2 := hO7.cell y2 (by simp)
      replace y3 := hO7.cell y3 (by simp)
      replace y4 := hO7.cell y4 (by simp)
      clear hO7
      go_wp2_with fail
      refine (awake5 _).mono ?_
      rintro e w8 ⟨rfl, hO8⟩
      have HO8 := Lib.hid ((HO7.out.alloc (.cells #[.int .i64 0, .int .i64 0, .int .i64 0, .int .i64 0, .int .i64 0] 31)).trans' hO8)
      go_wp2
      go_ret
      exact ⟨rfl, HO8.out⟩

theorem walk (a0_0 a0_1 a0_2 : Int) (a1 : Int) (a2 : Int) (a3 : Int) (w : World) (w0_0 : (Lit.int .i64 a0_0).wf = true) (w0_1 : (Lit.int .i64 a0_1).wf = true) (w0_2 : (Lit.int .i64 a0_2).wf = true) (w1 : (Lit.int .i64 a1).wf = true) (w2 : (Lit.int .i64 a2).wf = true) (w3 : (Lit.int .i64 a3).wf = true) : Calls Try.prog 4 #[.agg #[.int .i64 a0_0, .int .i64 a0_1, .int .i64 a0_2], .int .i64 a1, .int .i64 a2, .int .i64 a3] w fun e w' => e = .returned (.bool true) ∧ Below w.heap.size w w' := by
  refine (chooses a0_0 a0_1 a0_2 a1 a2 a3 w w0_0 w0_1 w0_2 w1 w2).mono ?_
  rintro e w' ⟨rfl, hO⟩
  exact ⟨rfl, hO.below0⟩

set_option maxRecDepth 100000 in
theorem lifted (os : Os) (started : os.Started) (H : Type) (enc : TypeId × Value → H) :
    ReturnsInHanded {} Try.checked os 4 .any (Rows.superChoosesSpec.pre6 enc Try.prog Try.f4 Rows.superChoosesRow.domain false) (Rows.superChoosesSpec.post enc Try.prog Try.f4 false true false false) := by
  refine returnsInHanded_of_change (C := Try.checked) own started (by kernel_rfl) Try.func4
    (ChangeSpec.witness6 (enc := enc) (C := Try.checked) false ⟨#[], #[.agg #[.int .i64 0, .int .i64 0, .int .i64 0], .int .i64 0, .int .i64 0, .int .i64 0], []⟩ 8 (by kernel_rfl) (by kernel_rfl) (by kernel_rfl) (by kernel_rfl)) ?_
  intro W base args ds gs before hval0 hW hcnd _
  have hval : ∀ (j : Nat) t v, Try.f4.params[j]? = some t → args[j]? = some v → Value.okWide Try.prog W .any base t v := hval0
  have hW' := hW
  obtain ⟨p, q, hA0, hV, rfl, hfz, hnd⟩ := hW
  have hA : DataW.TrodAll enc Try.prog W 0 (fun _ => true) true Try.f4.params.toList args.toList ds p := hA0
  rw [Try.params4] at hA hval
  obtain ⟨v0, vs0, d0, ds0, p0, q0, hargs, rfl, rfl, h0, r0⟩ := trodAll_cons hA
  obtain ⟨v1, vs1, d1, ds1, p1, q1, rfl, rfl, rfl, h1, r1⟩ := trodAll_cons r0
  obtain ⟨v2, vs2, d2, ds2, p2, q2, rfl, rfl, rfl, h2, r2⟩ := trodAll_cons r1
  obtain ⟨v3, vs3, d3, ds3, p3, q3, rfl, rfl, rfl, h3, r3⟩ := trodAll_cons r2
  obtain ⟨rfl, rfl, rfl⟩ := trodAll_nil r3
  obtain rfl : args = #[v0, v1, v2, v3] := by cases args; simp_all
  obtain ⟨rfl, rfl⟩ := trodVars_none hV
  have k0 := h0
  have lt0 : ∀ x ∈ p0, x.block < W.heap.size := by obtain ⟨m, hm⟩ := k0; exact DataW.trod_lt m _ _ _ hm
  obtain ⟨a0_0, a0_1, a0_2, rfl, w0_0, w0_1, w0_2⟩ := open_arr3 (okWide_array Try.underlying22 (hval 0 22 v0 rfl rfl)) h0
  obtain ⟨a1, rfl, rfl, rfl, w1⟩ := open_int Try.underlying3 (hval 1 3 v1 rfl rfl) h1
  obtain ⟨a2, rfl, rfl, rfl, w2⟩ := open_int Try.underlying3 (hval 2 3 v2 rfl rfl) h2
  obtain ⟨a3, rfl, rfl, rfl, w3⟩ := open_int Try.underlying3 (hval 3 3 v3 rfl rfl) h3
  clear hA0 hval0
  refine (walk a0_0 a0_1 a0_2 a1 a2 a3 W w0_0 w0_1 w0_2 w1 w2 w3).mono fun e W' ⟨he, bel⟩ => ?_
  subst he
  exact ⟨_, rfl, _, _, _, [], _, [], hW', trodAll_mk1 (shut_bool Try.underlying4 _), (trodAll_cons_mk (Below.trod laidOut (by kernel_rfl) (of_decide_eq_true (by kernel_rfl)) k0 bel lt0) (trodAll_cons_mk (shut_int Try.underlying3 w1) (trodAll_cons_mk (shut_int Try.underlying3 w2) (trodAll_cons_mk (shut_int Try.underlying3 w3) trodAll_mk0)))), rfl, bel.frame _, fun h => by cases h⟩

set_option maxRecDepth 100000 in
theorem closed : joinedFacts Try.pinned.checked.prog 4 Try.f4 Rows.superChoosesSpec Rows.superChoosesRow = true := by
  show joinedFacts Try.prog 4 Try.f4 Rows.superChoosesSpec Rows.superChoosesRow = true
  unfold joinedFacts
  simp only [enter_may, enter_lifts, enter_make]
  kernel_rfl

theorem over : Rows.superChoosesRow.holds Try.pinned (OpenSpec.ofChange Rows.superChoosesSpec) :=
  OpenClaim.holds_of_wide 4 Try.f4 rfl rfl rfl rfl rfl rfl rfl ⟨rfl, rfl, rfl, rfl, rfl⟩ rfl rfl rfl rfl rfl (by kernel_rfl) Try.func4 closed
    (of_decide_eq_true (by kernel_rfl)) (by unfold Func.isWrapper; first | (rw [if_pos (by decide +kernel)]; kernel_rfl) | (rw [if_neg (by decide +kernel)]; exact ⟨rfl, rfl⟩))
    (fun os started H enc _ => lifted os started H enc)

theorem proved : Rows.SuperChoosesSaid := over

end Go.Proofs.Ytjmbhknokobnpaa.superChooses
