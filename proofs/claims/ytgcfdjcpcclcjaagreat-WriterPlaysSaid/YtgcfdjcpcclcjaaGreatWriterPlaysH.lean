/- StqP, PlcP, AwkP, YyB, FrameY, WrJ, Awake15, YyC, WplT, FrameH, FrameU: joined by pack.py, without what the claim does not use. -/
import Derived.Test.YtgcfdjcpcclcjaaGreatWriterPlaysG
set_option linter.unusedVariables false
set_option linter.unusedSimpArgs false
namespace Go.Kn
open Go Go.RowKit
def is2 (x : Int) : Bool := decide (x = 2)
/-- what waits, if anything does, is emitted -/
def Em1 (a x : Wr) : Prop := (x = a ∧ a.its = []) ∨ (a.its ≠ [] ∧ a.emit c8 = (x, 0))
/-- what an Add does ahead of the item -/
def Rch (n : Nat) (z y : Wr) : Prop := (n = 0 ∧ y = z) ∨ (n = 0 ∧ z.its ≠ [] ∧ z.emit c8 = (y, 0)) ∨ n = 1 ∧ ∃ (k : Nat) (x : Wr), k < 8 ∧ z.t.sts.getD k 0 = 0 ∧ Hw c8 { z with t := z.t.grab k } ∧ Em1 { z with t := z.t.grab k } x ∧ Hw c8 x ∧ x.its = [] ∧ x.bl = [] ∧ 22 ≤ x.p.o ∧ x.p.s = z.p.s ∧ x.p.l ≤ z.p.l + 1 ∧ x.turn c8 k = (y, 0)
structure PI (tn : Nat) (pot : Int) (z : Wr) : Prop where
 h : Hw c8 z
 ok : z.t.Ok 8
 op : z.t.sts.getD z.p.s.toNat 0 = 1
 f0 : z.t.sts.countP fr0 + tn = 7
 f2 : z.t.sts.countP is2 = tn
 pt : 21 * (tn : Int) + max z.p.o 1 + 2 * (z.its.length : Int) ≤ pot
 l : 2 * z.p.l + 2 * (z.its.length : Int) ≤ pot + 2 * (tn : Int) + 40
 held : 2 * (z.d.held.length : Int) + 6 * (z.its.length : Int) ≤ 3 * pot + 4 * (tn : Int)
section
variable {tn : Nat} {pot : Int} {z : Wr} {i : It} {b : List UInt8} {sp : Bool}
theorem PI.s8 (h : PI tn pot z) : 0 ≤ z.p.s ∧ z.p.s ≤ 7 := h.h.s
theorem PI.len (h : PI tn pot z) : z.t.sts.length = 8 := live_ok h.ok
theorem PI.tn7 (h : PI tn pot z) : tn ≤ 7 := by have := h.f0; omega
theorem bl_le {c : Cf} (h : Hw c z) : z.bl.length ≤ z.its.length := by rw [h.ld]; exact loads_le _
theorem PI.emit (h : PI tn pot z) (hp : pot ≤ 400) (hn : z.its ≠ []) : ∃ y, z.emit c8 = (y, 0) ∧ PI tn pot y ∧ y.its = [] ∧ y.bl = [] ∧ y.p.l = z.p.l + 1 ∧ y.p.s = z.p.s ∧ y.t.sts = z.t.sts ∧ y.p.o = behind z.p.o z.bl.length := by
 have hlm := h.l
 have hhm := h.held
 have hpt := h.pt
 have ht7 := h.tn7
 obtain ⟨d, e1, e2, e3, e4, _⟩ := h.h.emit (by omega) hn
 have hr := rcSum_lt2 (h.h.recMay (by omega) hn)
 have hll := h.h.l
 have hob := h.h.o.1
 have hfit := h.h.fit.resolve_left hn
 have h6 := h.h.six
 have hbl := bl_le h.h
 have hi0 : z.its.length ≠ 0 := fun e => hn (List.length_eq_zero_iff.1 e)
 have hst : (z.t.touch z.p.s z.p.l).sts = z.t.sts := sts_touch _ _ _
 refine ⟨_, e1, { h := { cok := h.h.cok, rdy := e2, len := e3, s := h.h.s, o := ⟨by show 0 ≤ behind _ _; unfold behind; omega, hfit⟩, l := by show 1 ≤ z.p.l + 1; omega, pp := ⟨by show (0 : Int) ≤ (rcSum _ : Nat); omega, by show ((rcSum _ : Nat) : Int) ≤ _; omega⟩, m := h.h.m, may := rfl, k7 := by simp, ld := rfl, f64 := rfl, six := by simp, fit := .inl rfl }, ok := h.ok.touch _ _, op := by show (z.t.touch _ _).sts.getD _ 0 = 1; rw [hst]; exact h.op, f0 := by show List.countP fr0 (z.t.touch _ _).sts + _ = 7; rw [hst]; exact h.f0, f2 := by show List.countP is2 (z.t.touch _ _).sts = _; rw [hst]; exact h.f2, pt := ?_, l := ?_, held := ?_ }, rfl, rfl, rfl, rfl, hst, rfl⟩
 ·show 21 * (tn : Int) + max (behind z.p.o z.bl.length) 1 + 2 * ((0 : Nat) : Int) ≤ pot
  unfold behind
  omega
 ·show 2 * (z.p.l + 1) + 2 * ((0 : Nat) : Int) ≤ _
  omega
 ·show 2 * (d.held.length : Int) + 6 * ((0 : Nat) : Int) ≤ _
  rw [e4]
  split <;> push_cast <;> omega
theorem PI.mono {p2 : Int} (h : PI tn pot z) (hp : pot ≤ p2) : PI tn p2 z := { h := h.h, ok := h.ok, op := h.op, f0 := h.f0, f2 := h.f2, pt := by have := h.pt; omega, l := by have := h.l; omega, held := by have := h.held; omega }
theorem PI.put (h : PI tn pot z) (hv : Wr.vok i b) (h6 : z.its.length + 1 ≤ 6) (hf : behind z.p.o (z.bl.length + nbl i) < 24) : PI tn (pot + 2) (z.put i b) := by
 have hi : (z.put i b).its.length = z.its.length + 1 := by show (z.its ++ [i]).length = _; simp
 have hpt := h.pt
 have hl := h.l
 have hh := h.held
 refine { h := put_ok h.h hv h6 (by show _ ≤ (24 : Int) - 1; omega), ok := h.ok, op := h.op, f0 := h.f0, f2 := h.f2, pt := ?_, l := ?_, held := ?_ }
 ·rw [hi]
  show 21 * (tn : Int) + max z.p.o 1 + _ ≤ _
  push_cast
  omega
 ·rw [hi]
  show 2 * z.p.l + _ ≤ _
  push_cast
  omega
 ·rw [hi]
  show 2 * (z.d.held.length : Int) + _ ≤ _
  push_cast
  omega
theorem PI.add (h : PI tn pot z) (hv : Wr.vok i b) (hsp : (sp = true ∧ pot ≤ 168) ∨ pot ≤ 126) :
  ∃ n y, z.add c8 i b sp = (y.put i b, y.at_ c8 i, 0) ∧ PI (tn + n) (pot + 2) (y.put i b) ∧ Hw c8 y ∧ y.t.Ok 8 ∧ Rch n z y := by
 have hlm := h.l
 have hhm := h.held
 have hpt := h.pt
 have ht7 := h.tn7
 have hp : pot ≤ 168 := by omega
 by_cases h1 : z.its.length + 1 ≤ 6 ∧ behind z.p.o (z.bl.length + nbl i) < c8.l
 ·exact ⟨0, z, (add_fit h.h hv h1.1 h1.2).1, h.put hv h1.1 h1.2, h.h, h.ok, .inl ⟨rfl, rfl⟩⟩
 ·by_cases h2 : behind (if z.its = [] then z.p.o else behind z.p.o z.bl.length) (nbl i) < c8.l
  ·have hn : z.its ≠ [] := by
    intro hn
    rw [if_pos hn] at h2
    have hb : z.bl.length = 0 := by have := bl_le h.h; rw [hn] at this; exact Nat.le_zero.1 this
    exact h1 ⟨by rw [hn]; decide, by rw [hb, Nat.zero_add]; exact h2⟩
   rw [if_neg hn] at h2
   obtain ⟨y, e0, e1, e2, e3, e4, e5⟩ := add_emit (sp := sp) h.h hv (by omega) h1 hn h2
   obtain ⟨y', f0, f1, f2, f3, f4, f5, f6, f7⟩ := h.emit (by omega) hn
   rw [e0] at f0
   obtain rfl : y = y' := (Prod.mk.inj f0).1
   exact ⟨0, y, e4, f1.put hv (by rw [e2]; decide) (by rw [e3, f7, List.length_nil, Nat.zero_add]; exact h2), e1, f1.ok, .inr (.inl ⟨rfl, hn, e0⟩)⟩
  ·have hn1 : nbl i ≤ 1 := by unfold nbl; split <;> omega
   have ho22 : 22 ≤ (if z.its = [] then z.p.o else behind z.p.o z.bl.length) := by
    unfold behind at h2 ⊢
    have hcl : c8.l = 24 := rfl
    omega
   have hpot2 : 21 * (tn : Int) + 22 ≤ pot := by
    by_cases hn : z.its = []
    ·rw [if_pos hn] at ho22
     omega
    ·have hi0 : z.its.length ≠ 0 := fun e => hn (List.length_eq_zero_iff.1 e)
     have hbl := bl_le h.h
     rw [if_neg hn] at ho22
     unfold behind at ho22
     omega
   have hfree : z.t.free = 7 - tn := by rw [free_sts]; have := h.f0; omega
   obtain ⟨k, hk⟩ := idx_free (t := z.t) (by rw [hfree]; omega)
   obtain ⟨k1, k2⟩ := idx_some hk
   rw [h.len] at k1
   have htk : z.t.takes sp = true := by
    unfold Tb.takes
    rcases hsp with ⟨rfl, _⟩ | hsp
    ·rfl
    ·rw [hfree, decide_eq_true (by omega)]
     simp
   obtain ⟨y, x, y1, y2, y3, y4, y5, y6, y7, y8, y9, x1, x2, x3, x4, x5, x6, x7, x8, x9, x10, x11⟩ := add_turn (sp := sp) h.h hv (by omega) h1 h2 htk hk (by show (k : Int) ≤ 7; omega)
   have hs8 := h.s8
   have hsk : z.p.s.toNat ≠ k := by
    intro e
    have := h.op
    rw [e, k2] at this
    exact absurd this (by decide)
   have hgs : (z.t.grab k).sts = z.t.sts.set k 1 := by
    rw [sts_grab (by rw [h.len]; omega), Int.toNat_natCast, if_pos k2]
   have hxs : x.t.sts = (z.t.sts.set k 1).set z.p.s.toNat 2 := by
    rw [x8, y7, sts_shut (by rw [sts_touch, y8, hgs, List.length_set, h.len]; omega), sts_touch, y8, hgs, if_pos]
    rw [List.getD_eq_getElem?_getD, List.getElem?_set_ne (fun e => hsk e.symm), ← List.getD_eq_getElem?_getD]
    exact h.op
   have hlen := h.len
   have hok : x.t.Ok 8 := by
    have hy8 : y.t.Ok 8 := by
     rcases y1 with ⟨rfl, _⟩ | ⟨hn, e⟩
     ·exact h.ok.grab _
     ·have := (Go.Proofs.YtgcfdjcpcclcjaaGreat.emit_s c8 { z with t := z.t.grab k } h.h.o.1).2.2.2.1 8 (h.ok.grab _)
      rw [e] at this
      exact this
    rw [x8]
    exact (hy8.touch _ _).shut _
   have hop := h.op
   have hf0 := h.f0
   have hf2 := h.f2
   have hg : ∀ {j : Nat} (hj : j < z.t.sts.length), z.t.sts[j] = z.t.sts.getD j 0 := fun hj => by rw [List.getD_eq_getElem?_getD, List.getElem?_eq_getElem hj]; rfl
   have hcnt : ∀ p : Int → Bool, x.t.sts.countP p + (if p 0 = true then 1 else 0) + (if p 1 = true then 1 else 0) = z.t.sts.countP p + (if p 1 = true then 1 else 0) + (if p 2 = true then 1 else 0) := by
    intro p
    have hl1 : k < z.t.sts.length := by omega
    have hl2 : z.p.s.toNat < (z.t.sts.set k 1).length := by rw [List.length_set]; omega
    have a1 := List.countP_set (p := p) (l := z.t.sts) (i := k) (a := (1 : Int)) hl1
    have a2 := List.countP_set (p := p) (l := z.t.sts.set k 1) (i := z.p.s.toNat) (a := (2 : Int)) hl2
    have g1 : (z.t.sts.set k 1)[z.p.s.toNat] = 1 := by
     rw [List.getElem_set_ne (fun e => hsk e.symm), hg (by omega)]
     exact hop
    rw [hg hl1, k2] at a1
    rw [g1] at a2
    rw [hxs, a2, a1]
    have b1 : (if p 0 = true then 1 else 0) ≤ z.t.sts.countP p := by
     split
     ·rename_i hp0
      exact List.countP_pos_iff.2 ⟨_, List.getElem_mem hl1, by rw [hg hl1, k2]; exact hp0⟩
     ·exact Nat.zero_le _
    have b2 : (if p 1 = true then 1 else 0) ≤ (z.t.sts.set k 1).countP p := by
     split
     ·rename_i hp0
      exact List.countP_pos_iff.2 ⟨_, List.getElem_mem hl2, by rw [g1]; exact hp0⟩
     ·exact Nat.zero_le _
    rw [a1] at b2
    omega
   have c0 := hcnt fr0
   have c2 := hcnt is2
   have e00 : fr0 0 = true := rfl
   have e01 : fr0 1 = false := rfl
   have e02 : fr0 2 = false := rfl
   have e20 : is2 0 = false := rfl
   have e21 : is2 1 = false := rfl
   have e22 : is2 2 = true := rfl
   rw [e00, e01, e02] at c0
   rw [e20, e21, e22] at c2
   simp only [if_true, Bool.false_eq_true, if_false] at c0 c2
   have hpi : PI (tn + 1) pot x := by
    have hbl := bl_le h.h
    refine { h := x2, ok := hok, op := ?_, f0 := by omega, f2 := by omega, pt := ?_, l := ?_, held := ?_ }
    ·rw [hxs, x6, Int.toNat_natCast, List.getD_eq_getElem?_getD, List.getElem?_set_ne hsk, List.getElem?_set_self (by omega)]
     rfl
    ·rw [x5, x3]
     show 21 * ((tn + 1 : Nat) : Int) + max 1 1 + 2 * ((0 : Nat) : Int) ≤ _
     push_cast
     omega
    ·rw [x3, x7]
     show _ + 2 * ((0 : Nat) : Int) ≤ _
     push_cast
     by_cases hn : z.its = []
     ·have : y.p.l = z.p.l := by
       rcases y1 with ⟨e, _⟩ | ⟨hn', _⟩
       ·rw [e]
       ·exact absurd hn hn'
      omega
     ·have hi0 : z.its.length ≠ 0 := fun e => hn (List.length_eq_zero_iff.1 e)
      omega
    ·rw [x3, x9]
     show _ + 6 * ((0 : Nat) : Int) ≤ _
     push_cast
     by_cases hn : z.its = []
     ·have : y.d = z.d := by
       rcases y1 with ⟨e, _⟩ | ⟨hn', _⟩
       ·rw [e]
       ·exact absurd hn hn'
      rw [this]
      omega
     ·have hi0 : z.its.length ≠ 0 := fun e => hn (List.length_eq_zero_iff.1 e)
      omega
   have hgr : Hw c8 { z with t := z.t.grab k } := { cok := h.h.cok, rdy := h.h.rdy, len := h.h.len, s := h.h.s, o := h.h.o, l := h.h.l, pp := h.h.pp, m := h.h.m, may := h.h.may, k7 := h.h.k7, ld := h.h.ld, f64 := h.h.f64, six := h.h.six, fit := h.h.fit }
   exact ⟨1, x, x10, hpi.put hv (by rw [x3]; decide) (by rw [x4, x5]; show behind 1 (0 + nbl i) < 24; unfold behind; omega), x2, hok, .inr (.inr ⟨rfl, k, y, k1, k2, hgr, y1, y2, y3, y4, by rw [y5]; exact ho22, y7, y6, x1⟩)⟩
end
end Go.Kn
namespace Go.Kn
open Go Go.RowKit
/-- a block that was told to lie at k: its segment was taken, it lies behind a record's first sector, and it is read there -/
structure Plc (U : Int → Prop) (z : Wr) (k : Int) (v : List UInt8) (s off : Int) : Prop where
 hs : 0 ≤ s ∧ s ≤ 7
 ho : 2 ≤ off ∧ off ≤ 22
 hk : k = c8.at_ s + off
 u : U s
 cur : s = z.p.s → off < max z.p.o 1 ∨ (max z.p.o 1 + 1 ≤ off ∧ off < max z.p.o 1 + 1 + (z.bl.length : Int))
 rd : z.rd c8 k = (v, 0)
section
variable {U : Int → Prop} {z y : Wr} {k : Int} {v b : List UInt8} {s off : Int} {i : It}
theorem at8 {s : Int} (h : 0 ≤ s ∧ s ≤ 7) : c8.at_ s = 10 + 24 * s := by
 unfold Cf.at_
 have e1 : c8.s = 8 := rfl
 have e2 : c8.l = 24 := rfl
 have e3 : (2 : Int) + 2 * rln c8.s + 4 * pgs c8.b = 10 := rfl
 rw [if_pos ⟨h.1, by omega⟩, e2, e3]
 omega
theorem first8 (h : 0 ≤ z.p.s ∧ z.p.s ≤ 7) : Wr.first c8 z = 10 + 24 * z.p.s + (max z.p.o 1 + 1) := by
 unfold Wr.first behind
 rw [at8 h]
 omega
theorem Plc.k8 (h : Plc U z k v s off) : k = 10 + 24 * s + off := by rw [h.hk, at8 h.hs]
/-- on the disk: a sector that the next step leaves -/
theorem read_keep {d d' : Dk} (h : Rdy d) (h' : Rdy d') (hl : (d.safe.length : Int) = c8.sectors) (hl' : (d'.safe.length : Int) = c8.sectors) {x : Int} (hx : d'.now[x.toNat]? = d.now[x.toNat]?) : d'.err x = d.err x ∧ d'.read x = d.read x := read_now h h' (by omega) hx
theorem Plc.waits (hz : Hw c8 z) (h : Plc U z k v s off) (hw : s = z.p.s ∧ max z.p.o 1 + 1 ≤ off) : ∃ j : Nat, j < z.bl.length ∧ off = max z.p.o 1 + 1 + (j : Int) ∧ z.bl[j]? = some v := by
 have hs := h.hs
 have hf := first8 (z := z) hz.s
 have hc := (h.cur hw.1).resolve_left (by omega)
 have hk := h.k8
 have hr := h.rd
 refine ⟨(off - (max z.p.o 1 + 1)).toNat, by omega, by omega, ?_⟩
 unfold Wr.rd at hr
 rw [hf, if_pos (by omega)] at hr
 have := (Prod.mk.inj hr).1
 rw [List.getD_eq_getElem?_getD, show (k - (10 + 24 * z.p.s + (max z.p.o 1 + 1))).toNat = (off - (max z.p.o 1 + 1)).toNat from by omega] at this
 rw [List.getElem?_eq_getElem (by omega)] at this ⊢
 exact congrArg some this
theorem Plc.lies (hz : Hw c8 z) (h : Plc U z k v s off) (hw : s = z.p.s → off < max z.p.o 1) : z.d.read k = v ∧ z.d.err k = 0 := by
 have hs := h.hs
 have hf := first8 (z := z) hz.s
 have hk := h.k8
 have hr := h.rd
 have ho := h.ho
 have hzs : 0 ≤ z.p.s ∧ z.p.s ≤ 7 := hz.s
 have hzo : 0 ≤ z.p.o ∧ z.p.o ≤ 23 := hz.o
 have hbl : (z.bl.length : Int) ≤ 22 - max z.p.o 1 ∨ z.bl.length = 0 := by
  rcases hz.fit with e | e
  ·right
   have := bl_le hz
   rw [e] at this
   simpa using this
  ·left
   have e' : behind z.p.o z.bl.length ≤ 23 := e
   unfold behind at e'
   omega
 unfold Wr.rd at hr
 rw [hf, if_neg] at hr
 ·exact ⟨(Prod.mk.inj hr).1, (Prod.mk.inj hr).2⟩
 ·by_cases e : s = z.p.s
  ·have := hw e
   subst e
   omega
  ·omega
theorem Plc.emit (hz : Hw c8 z) (hl : z.p.l ≤ 2147483647) (hn : z.its ≠ []) (h : Plc U z k v s off) (hy : z.emit c8 = (y, 0)) : Plc U y k v s off := by
 obtain ⟨d, e1, e2, e3, e4, e5⟩ := hz.emit hl hn
 rw [e1] at hy
 obtain rfl := (Prod.mk.inj hy).1
 have hs := h.hs
 have ho := h.ho
 have hk := h.k8
 have hzs : 0 ≤ z.p.s ∧ z.p.s ≤ 7 := hz.s
 have hzo : 0 ≤ z.p.o ∧ z.p.o ≤ 23 := hz.o
 have hat := at8 hzs
 have hfit : behind z.p.o z.bl.length ≤ 23 := hz.fit.resolve_left hn
 have hlen : (z.d.safe.length : Int) = 202 := hz.len
 have hlen2 : (d.safe.length : Int) = 202 := e3
 have hnow : z.d.now.length = z.d.safe.length := Dk.now_length _
 unfold behind at hfit
 have hcur : s = z.p.s → off < max (behind z.p.o z.bl.length) 1 := by
  intro e
  have := h.cur e
  unfold behind
  omega
 have hfst : Wr.first c8 (⟨d, z.t.touch z.p.s z.p.l, ⟨z.p.s, behind z.p.o z.bl.length, z.p.l + 1, (rcSum z.rcd : Nat), z.p.m⟩, [], []⟩ : Wr) = _ := first8 (z := ⟨d, z.t.touch z.p.s z.p.l, ⟨z.p.s, behind z.p.o z.bl.length, z.p.l + 1, (rcSum z.rcd : Nat), z.p.m⟩, [], []⟩) hzs
 have hread : d.read k = v ∧ d.err k = 0 := by
  by_cases hw : s = z.p.s ∧ max z.p.o 1 + 1 ≤ off
  ·obtain ⟨j, j1, j2, j3⟩ := h.waits hz hw
   have hrm := hz.recMay hl hn
   have hblen : z.rcd.bl.length = z.bl.length := rfl
   have hrb := rcBytes_length hrm
   have hkn : k.toNat = (c8.at_ z.p.s + max z.p.o 1).toNat + (1 + j) := by
    rw [hat]
    have := hw.1
    subst this
    omega
   have hsec : d.now[k.toNat]? = some v := by
    rw [e5, hkn, setSecs_at _ _ _ (1 + j) _ (by omega)]
    ·have h6 : z.rcd.its.length ≤ 6 := hz.six
     rw [show 64 * (1 + j) = 64 + 64 * j from by omega, ← List.drop_drop, rcBytes_flat h6, flat64_get (show full64 z.rcd.bl = true from hz.f64) j j1]
     rw [← j3]
     show some z.bl[j] = z.bl[j]?
     rw [List.getElem?_eq_getElem j1]
    ·split
     ·rw [List.length_set, hnow]
      rw [hat]
      have := hw.1
      subst this
      omega
     ·rw [hnow, hat]
      have := hw.1
      subst this
      omega
   have hh : d.has k = true := has_of (by omega) (by omega)
   exact ⟨e2.read_sec hh hsec, e2.err0 hh⟩
  ·have hold : s = z.p.s → off < max z.p.o 1 := by
    intro e
    rcases h.cur e with c | c
    ·exact c
    ·exact absurd ⟨e, c.1⟩ hw
   obtain ⟨l1, l2⟩ := h.lies hz hold
   have hkeep : d.now[k.toNat]? = z.d.now[k.toNat]? := by
    rw [e5, setSecs_other _ _ _ _ _ (by
     rw [hat]
     by_cases e : s = z.p.s
     ·have := hold e
      subst e
      left
      omega
     ·omega)]
    split
    ·rw [List.getElem?_set_ne]
     rw [hat]
     omega
    ·rfl
   obtain ⟨r1, r2⟩ := read_keep hz.rdy e2 hz.len e3 hkeep
   exact ⟨r2.trans l1, r1.trans l2⟩
 refine ⟨hs, ho, h.hk, h.u, fun e => .inl (hcur e), ?_⟩
 unfold Wr.rd
 rw [if_neg]
 ·rw [hread.1, hread.2]
 ·show ¬ (_ ∧ _ < ((0 : Nat) : Int))
  omega
theorem Plc.turn (hz : Hw c8 z) (hl : z.p.l ≤ 2147483646) (ho1 : 1 ≤ z.p.o) (hb : z.bl = []) {n : Nat} (hn : n < 8) (hu : ¬ U (n : Int)) (h : Plc U z k v s off) (hy : z.turn c8 n = (y, 0)) : Plc U y k v s off := by
 obtain ⟨d, e1, e2, e3, e4, e5⟩ := hz.turn (s := (n : Int)) ⟨by omega, by show (n : Int) ≤ 7; omega⟩ hl ho1
 rw [e1] at hy
 obtain rfl := (Prod.mk.inj hy).1
 have hs := h.hs
 have ho := h.ho
 have hk := h.k8
 have hzs : 0 ≤ z.p.s ∧ z.p.s ≤ 7 := hz.s
 have hat := at8 hzs
 have hat2 := at8 (s := (n : Int)) ⟨by omega, by omega⟩
 have hsn : s ≠ (n : Int) := fun e => hu (e ▸ h.u)
 have hold : s = z.p.s → off < max z.p.o 1 := by
  intro e
  rcases h.cur e with c | c
  ·exact c
  ·rw [hb] at c
   simp only [List.length_nil] at c
   omega
 obtain ⟨l1, l2⟩ := h.lies hz hold
 have hkeep : d.now[k.toNat]? = z.d.now[k.toNat]? := by
  rw [e5, List.getElem?_set_ne (by rw [hat2]; omega), setSecs_other _ _ _ _ _ (by
   rw [hat]
   have hzo : 0 ≤ z.p.o ∧ z.p.o ≤ 23 := hz.o
   by_cases e : s = z.p.s
   ·have := hold e
    subst e
    left
    omega
   ·omega)]
 obtain ⟨r1, r2⟩ := read_keep hz.rdy e2 hz.len e3 hkeep
 refine ⟨hs, ho, h.hk, h.u, fun e => absurd e hsn, ?_⟩
 unfold Wr.rd
 rw [if_neg]
 ·show (d.read k, d.err k) = _
  rw [r1, r2, l1, l2]
 ·show ¬ (_ ∧ _ < (z.bl.length : Int))
  rw [hb]
  show ¬ (_ ∧ _ < ((0 : Nat) : Int))
  omega
theorem Plc.put (hz : Hw c8 z) (h : Plc U z k v s off) : Plc U (z.put i b) k v s off := by
 have hf := first8 (z := z) hz.s
 have hk := h.k8
 have hs := h.hs
 have ho := h.ho
 have hzs : 0 ≤ z.p.s ∧ z.p.s ≤ 7 := hz.s
 have hle : z.bl.length ≤ (z.put i b).bl.length := by
  show _ ≤ (z.bl ++ _).length
  rw [List.length_append]
  omega
 refine ⟨hs, ho, h.hk, h.u, fun e => ?_, ?_⟩
 ·have := h.cur e
  show off < max z.p.o 1 ∨ _
  rcases this with c | ⟨c1, c2⟩
  ·exact .inl c
  ·refine .inr ⟨c1, ?_⟩
   show off < max z.p.o 1 + 1 + _
   omega
 ·by_cases hw : s = z.p.s ∧ max z.p.o 1 + 1 ≤ off
  ·obtain ⟨j, j1, j2, j3⟩ := h.waits hz hw
   unfold Wr.rd
   have hfp : Wr.first c8 (z.put i b) = Wr.first c8 z := rfl
   have hks : k - Wr.first c8 z = (j : Int) := by
    rw [hf]
    have := hw.1
    subst this
    omega
   rw [hfp, hks, if_pos ⟨by omega, by omega⟩, Int.toNat_natCast]
   show ((z.bl ++ _).getD j [], (0 : Int)) = _
   rw [List.getD_eq_getElem?_getD, List.getElem?_append_left j1, j3]
   rfl
  ·have hold : s = z.p.s → off < max z.p.o 1 := by
    intro e
    rcases h.cur e with c | c
    ·exact c
    ·exact absurd ⟨e, c.1⟩ hw
   obtain ⟨l1, l2⟩ := h.lies hz hold
   have hblb : (z.put i b).bl.length ≤ z.bl.length + 1 := by
    show (z.bl ++ _).length ≤ _
    rw [List.length_append]
    split <;> simp
   unfold Wr.rd
   have hfp : Wr.first c8 (z.put i b) = Wr.first c8 z := rfl
   rw [hfp, hf, if_neg]
   ·show (z.d.read k, z.d.err k) = _
    rw [l1, l2]
   ·have hzo : 0 ≤ z.p.o ∧ z.p.o ≤ 23 := hz.o
    have hbl : (z.bl.length : Int) ≤ 22 - max z.p.o 1 ∨ z.bl.length = 0 := by
     rcases hz.fit with e | e
     ·right
      have := bl_le hz
      rw [e] at this
      simpa using this
     ·left
      have e' : behind z.p.o z.bl.length ≤ 23 := e
      unfold behind at e'
      omega
    by_cases e : s = z.p.s
    ·have := hold e
     subst e
     omega
    ·omega
theorem Plc.imp {U' : Int → Prop} (h : Plc U z k v s off) (hi : ∀ s, U s → U' s) : Plc U' z k v s off := ⟨h.hs, h.ho, h.hk, hi _ h.u, h.cur, h.rd⟩
theorem Plc.ne (hz : Hw c8 z) (h : Plc U z k v s off) : k ≠ Wr.first c8 z + (z.bl.length : Int) := by
 rw [first8 hz.s, h.k8]
 have hs := h.hs
 have ho := h.ho
 have hzs : 0 ≤ z.p.s ∧ z.p.s ≤ 7 := hz.s
 have hzo : 0 ≤ z.p.o ∧ z.p.o ≤ 23 := hz.o
 have hbl : (z.bl.length : Int) ≤ 22 - max z.p.o 1 ∨ z.bl.length = 0 := by
  rcases hz.fit with e | e
  ·right
   have := bl_le hz
   rw [e] at this
   simpa using this
  ·left
   have e' : behind z.p.o z.bl.length ≤ 23 := e
   unfold behind at e'
   omega
 by_cases e : s = z.p.s
 ·have := h.cur e
  subst e
  omega
 ·omega
/-- the next block: where it will lie -/
theorem Plc.new (hz : Hw c8 (z.put i b)) (hld : i.loaded = true) (hU : U z.p.s) : Plc U (z.put i b) (Wr.first c8 z + (z.bl.length : Int)) b z.p.s (max z.p.o 1 + 1 + (z.bl.length : Int)) := by
 have hs : 0 ≤ z.p.s ∧ z.p.s ≤ 7 := hz.s
 have hbl : (z.put i b).bl = z.bl ++ [b] := by unfold Wr.put; rw [hld]; rfl
 have hfit : behind z.p.o (z.put i b).bl.length ≤ 23 := hz.fit.resolve_left (by unfold Wr.put; simp)
 rw [hbl, List.length_append] at hfit
 unfold behind at hfit
 have hzo : 0 ≤ z.p.o := hz.o.1
 have hl1 : [b].length = 1 := rfl
 refine ⟨hs, by omega, by rw [first8 hs, at8 hs]; omega, hU, fun _ => .inr ⟨by show max z.p.o 1 + 1 ≤ _; omega, ?_⟩, ?_⟩
 ·rw [hbl, List.length_append]
  show _ < max z.p.o 1 + 1 + _
  push_cast
  omega
 ·unfold Wr.rd
  have hfp : Wr.first c8 (z.put i b) = Wr.first c8 z := rfl
  rw [hfp, hbl, List.length_append, if_pos (by omega), show Wr.first c8 z + (z.bl.length : Int) - Wr.first c8 z = ((z.bl.length : Nat) : Int) from by omega, Int.toNat_natCast]
  rw [List.getD_eq_getElem?_getD, List.getElem?_append_right (Nat.le_refl _), Nat.sub_self]
  rfl
end
end Go.Kn
namespace Go.Kn
open Go Go.RowKit
def aw0 : Wr := ⟨Dk.new 202, tbMade 8 c8 0 [], ⟨0, 0, 1, 0, 2⟩, [], []⟩
def awk (i : Nat) : Wr := { aw0 with its := (List.range i).map fun (j : Nat) => spIt (j : Int), bl := (List.range i).map fun (j : Nat) => fillB (j : Int) }
theorem fillB_length (x : Int) : (fillB x).length = 64 := by simp [fillB]
theorem aw_put (i : Nat) (h : i < 6) : (awk i).put (spIt (i : Int)) (fillB (i : Int)) = awk (i + 1) := by
 unfold Wr.put awk
 rw [spIt_ld ⟨by omega, by omega⟩, List.range_succ, List.map_append, List.map_append]
 rfl
theorem aw_len (i : Nat) : (awk i).its.length = i ∧ (awk i).bl.length = i := by
 unfold awk
 simp
theorem aw_fit (i m : Nat) : behind (awk i).p.o m = 2 + (m : Int) := rfl
theorem aw_step (i : Nat) (h : i < 6) (hw : Hw c8 (awk i)) : (awk i).add c8 (spIt (i : Int)) (fillB (i : Int)) false = (awk (i + 1), 12 + (i : Int), 0) ∧ Hw c8 (awk (i + 1)) := by
 obtain ⟨l1, l2⟩ := aw_len i
 have hx : 0 ≤ (i : Int) ∧ (i : Int) ≤ 63 := ⟨by omega, by omega⟩
 have hnb : nbl (spIt (i : Int)) = 1 := by unfold nbl; rw [spIt_ld hx]; rfl
 obtain ⟨e1, e2⟩ := add_fit (sp := false) hw (sp_vok hx (fillB_length _)) (by omega) (by rw [aw_fit, hnb, l2]; show _ < (24 : Int); push_cast; omega)
 rw [aw_put i h] at e1 e2
 refine ⟨?_, e2⟩
 rw [e1]
 unfold Wr.at_
 rw [if_pos (spIt_ld hx), l2]
 rfl
theorem aw_hw : ∀ i, i ≤ 6 → Hw c8 (awk i)
 | 0, _ => Hw.start c8ok _ rfl
 | i + 1, h => (aw_step i (by omega) (aw_hw i (by omega))).2
theorem aw_add (i : Nat) (h : i < 6) : (awk i).add c8 ⟨1, (i : Int), 0, 0⟩ (fillB (i : Int)) false = (awk (i + 1), 12 + (i : Int), 0) := (aw_step i h (aw_hw i (by omega))).1
theorem aw_read : (awk 6).rd c8 17 = (fillB 5, 0) := by
 unfold Wr.rd
 have hf : Wr.first c8 (awk 6) = 12 := rfl
 rw [hf, (aw_len 6).2, if_pos ⟨by decide, by decide⟩]
 rfl
theorem aw_next : (awk 6).add c8 ⟨7, 0, 0, 0⟩ [] false = (awk 6, 0, 1) := by
 unfold Wr.add
 rw [if_pos]
 simp
theorem aw_mark : ∃ y, (awk 6).add c8 ⟨3, 0, 0, 1⟩ [] false = (y, 0, 0) ∧ y.d.held.length = 8 ∧ y.p.o = 8 ∧ y.its.length = 1 := by
 have hm : It.may ⟨3, 0, 0, 1⟩ = true := (may_k 3 0 0 1).2 (.inr (.inr (.inl ⟨rfl, rfl, rfl, by decide, by decide⟩)))
 have hld : It.loaded ⟨3, 0, 0, 1⟩ = false := by
  unfold It.loaded
  rw [hm]
  rfl
 have hv : Wr.vok ⟨3, 0, 0, 1⟩ [] := ⟨hm, by decide, by rw [hld]; rfl⟩
 have hnb : nbl ⟨3, 0, 0, 1⟩ = 0 := by unfold nbl; rw [hld]; rfl
 have hw := aw_hw 6 (by decide)
 obtain ⟨l1, l2⟩ := aw_len 6
 have hn : (awk 6).its ≠ [] := fun e => by rw [e] at l1; simp at l1
 obtain ⟨y, e0, e1, e2, e3, e4, e5⟩ := add_emit (sp := false) hw hv (by decide) (by rw [l1]; simp) hn (by rw [aw_fit, l2, hnb]; decide)
 obtain ⟨d, f1, f2, f3, f4, _⟩ := hw.emit (by decide) hn
 rw [f1] at e0
 obtain rfl := (Prod.mk.inj e0).1
 have hat : ∀ y : Wr, y.at_ c8 ⟨3, 0, 0, 1⟩ = 0 := fun y => by
  unfold Wr.at_
  rw [hld]
  rfl
 rw [hat] at e4
 refine ⟨_, e4, ?_, ?_, ?_⟩
 ·show d.held.length = 8
  rw [f4, l2]
  rfl
 ·show behind (awk 6).p.o (awk 6).bl.length = 8
  rw [aw_fit, l2]
  rfl
 ·rfl
end Go.Kn
namespace Go.Proofs.YtgcfdjcpcclcjaaGreat
open Go Go.RowKit Go.Kn
def dataB (x : It) (f : Int) : List UInt8 := if x.loaded = true then fillB f else []
set_option maxRecDepth 100000 in
theorem data_any (k b c v : Int) (f : Int) (w : World) (hf : (Lit.int .i64 f).wf = true) :
  Calls Tryz.prog 41 #[.agg #[.int .i64 k, .int .i64 b, .int .i64 c, .int .i64 v], .int .i64 f] w fun en w' => ∃ A n c', en = .returned (.slice A n c') ∧ n ≤ 64 ∧ Fc w' (fun j => j < w.heap.size) (fun W => Bys W A n c' (dataB ⟨k, b, c, v⟩ f)) ∧ Only [] w w' := by
 have H0 := Lib.hid ((Wc.start w).newB #[.int .i64 k, .int .i64 b, .int .i64 c, .int .i64 v] 63 (b := w.heap.size) rfl)
 have hO0 : Only [] w (w.alloc (.cells #[.int .i64 k, .int .i64 b, .int .i64 c, .int .i64 v] 63)) := (Only.refl _ _).alloc _
 have HWF := Lib.hid hf
 clear hf
 cases hld : It.loaded ⟨k, b, c, v⟩ with
 | true =>
  have HLD := Lib.hid hld
  have hn : dataB ⟨k, b, c, v⟩ f = fillB f := by unfold dataB; rw [hld]; rfl
  rw [hn]
  clear hld hn
  go_enter Tryz.func41, Tryz.ntmps41
  go_wp2_with fail
  generalize hz : w.alloc (.cells #[.int .i64 k, .int .i64 b, .int .i64 c, .int .i64 v] 63) = w1 at *
  generalize hf5 : w.heap.size = f5 at *
  clear hz
  obtain ⟨y0, y1, y2, y3⟩ := own4 (H0.out.boxi 0 rfl)
  refine (ref_item_loaded_any k b c v _).mono ?_
  rintro en w2 ⟨rfl, hO⟩
  rw [HLD.out]
  have HO2 := Lib.hid (hO0.trans' hO)
  clear hO hO0 y0 y1 y2 y3 H0
  go_wp2_with fail
  refine (fill_any f _ HWF.out).mono ?_
  rintro en w3 ⟨g, rfl, hg, hown, hO3⟩
  have hfc : Fc w3 (fun j => j < f5) (fun W => Bys W (some ⟨g, 0, none⟩) 64 64 (fillB f)) := Row1.fc (Row1.of_Own hown (by rw [bvs_length, fillB_length]) (Nat.le_refl _) (by decide)) (fun _ a ha => by
   injection ha with ha
   subst ha
   have := HO2.out.size
   rw [hf5] at this
   exact Nat.not_lt.2 (Nat.le_trans this hg))
  have HF := Lib.hid hfc
  have HO3 := Lib.hid (HO2.out.trans' hO3)
  clear hfc hO3 hg hown HO2
  go_wp2
  go_ret
  exact ⟨_, 64, 64, rfl, Nat.le_refl _, by rw [hf5]; exact HF.out, HO3.out⟩
 | false =>
  have HLD := Lib.hid hld
  have hn : dataB ⟨k, b, c, v⟩ f = [] := by unfold dataB; rw [hld]; rfl
  rw [hn]
  clear hld hn
  go_enter Tryz.func41, Tryz.ntmps41
  go_wp2_with fail
  generalize hz : w.alloc (.cells #[.int .i64 k, .int .i64 b, .int .i64 c, .int .i64 v] 63) = w1 at *
  generalize hf5 : w.heap.size = f5 at *
  clear hz
  obtain ⟨y0, y1, y2, y3⟩ := own4 (H0.out.boxi 0 rfl)
  refine (ref_item_loaded_any k b c v _).mono ?_
  rintro en w2 ⟨rfl, hO⟩
  rw [HLD.out]
  have HO2 := Lib.hid (hO0.trans' hO)
  clear hO hO0 y0 y1 y2 y3 H0
  go_wp2
  go_ret
  exact ⟨none, 0, 0, rfl, by decide, fun W _ => Row1.nil W, HO2.out⟩
theorem YY.cells {w0 w : World} {k : Yp} {z y : Wr} {L : List (Nat × List Value)} {G : List Gs} {F : List (World → Prop)} (h : YY w0 w k z y L G F) :
  (w.cell? ⟨k.Z, 0, none⟩ = some (.pointer (some ⟨k.p.D, 0, none⟩)) ∧ w.cell? ⟨k.Z, 1, none⟩ = some (.pointer (some ⟨k.r.M, 0, none⟩)) ∧ w.cell? ⟨k.Z, 6, none⟩ = some (.pointer (some ⟨k.q.T, 0, none⟩)) ∧ w.cell? ⟨k.Z, 7, none⟩ = some (.pointer (some ⟨k.u.T, 0, none⟩)) ∧ w.cell? ⟨k.Z, 8, none⟩ = some (.pointer (some ⟨k.W, 0, none⟩)) ∧ w.cell? ⟨k.Z, 9, none⟩ = some (.pointer (some ⟨k.X, 0, none⟩))) ∧
  (w.cell? ⟨k.X, 5, none⟩ = some (.int .i64 y.p.s) ∧ w.cell? ⟨k.X, 6, none⟩ = some (.int .i64 y.p.o) ∧ w.cell? ⟨k.X, 7, none⟩ = some (.int .i64 y.p.l) ∧ w.cell? ⟨k.X, 8, none⟩ = some (.int .i64 y.p.p) ∧ w.cell? ⟨k.X, 9, none⟩ = some (.int .i64 y.p.m) ∧ ∃ A c, w.cell? ⟨k.X, 10, none⟩ = some (.slice A y.its.length c)) ∧
  ((∃ A c, w.cell? ⟨k.r.M, 1, none⟩ = some (.slice A y.d.held.length c)) ∧ w.cell? ⟨k.r.M, 4, none⟩ = some (.bool y.d.off) ∧ w.cell? ⟨k.r.M, 5, none⟩ = some (.int .i64 y.d.acts)) := by
 have hZ := h.zbox
 obtain ⟨A, c, B, m, sl, A', c', B', m', sl', hd⟩ := h
 have hX := hd.boxi 4 rfl
 obtain ⟨_, r2, r3, r4⟩ := duo_rcells hd
 exact ⟨⟨hZ.cellv 0, hZ.cellv 1, hZ.cellv 6, hZ.cellv 7, hZ.cellv 8, hZ.cellv 9⟩, ⟨hX.cellv 5, hX.cellv 6, hX.cellv 7, hX.cellv 8, hX.cellv 9, A', c', hX.cellv 10⟩, r2, r3, r4⟩
set_option maxRecDepth 100000 in
set_option maxHeartbeats 8000000 in
theorem duo_same (w0 w : World) (p : PD) (r : RD) (d : Dk) (c : Fr3) (h : Duo w0 w p r d d c) (hh : d.held.length ≤ 1000000) :
  Calls Tryz.prog 53 #[.pointer (some ⟨p.D, 0, none⟩), .pointer (some ⟨r.M, 0, none⟩)] w fun en w' => en = .returned (.bool true) ∧ Only [] w w' := by
 have HPR : Hid (p.N = r.N) := Lib.hid (h.N.symm.trans h.N')
 have HOW : Hid (Only [] w w.drew) := Lib.hid (Only.refl _ _).drew
 have hrn : r.N ≤ 4096 := by have h1 := h.ok'.n; have h2 := h.N'; omega
 have HD := Lib.hid h
 clear h
 go_enter Tryz.func53, Tryz.ntmps53
 go_wp2_with fail
 have HY := Lib.hid HD.out.drew
 clear HD
 obtain ⟨q1, ⟨Ah, ch, q2⟩, q3, q4⟩ := duo_rcells HY.out
 refine wp_region_held_drew (S := (fun w' => w'.cell? ⟨r.M, 0, none⟩ = some (.slice (some ⟨r.s, 0, none⟩) r.N r.cs) ∧ w'.cell? ⟨r.M, 1, none⟩ = some (.slice Ah d.held.length ch) ∧ w'.cell? ⟨r.M, 4, none⟩ = some (.bool d.off) ∧ w'.cell? ⟨r.M, 5, none⟩ = some (.int .i64 d.acts))) (by kernel_rfl) ⟨q1, q2, q3, q4⟩ (fun hSw0 => ?_)
 generalize w.drew = wz at *
 refine Kn.takeS 0 ⟨some 10, _, _, _, _, _⟩ ?_
 refine Kn.takeS 1 ⟨some 11, _, _, _, _, _⟩ ?_
 refine Kn.takeS 2 ⟨some 12, _, _, _, _, _⟩ ?_
 refine Kn.takeS 3 ⟨some 13, _, _, _, _, _⟩ ?_
 refine Kn.takeS 4 ⟨some 14, _, _, _, _, _⟩ ?_
 refine Kn.takeS 5 ⟨some 15, _, _, _, _, _⟩ ?_
 refine Kn.takeS 6 ⟨some 16, _, _, _, _, _⟩ ?_
 refine Kn.takeS 7 ⟨some 17, _, _, _, _, _⟩ ?_
 refine Kn.takeS 9 ⟨some 19, _, _, _, _, _⟩ ?_
 refine Kn.takeS 10 ⟨some 20, _, _, _, _, _⟩ ?_
 refine Kn.takeS 11 ⟨some 21, _, _, _, _, _⟩ ?_
 refine Kn.takeS 12 ⟨some 22, _, _, _, _, _⟩ (v := (.slice (some ⟨r.s, 0, none⟩) r.N r.cs)) (hy := fun w hSw => by
  have q0 := hSw.1
  go_simp) ?_
 refine Kn.takeS 13 ⟨some 23, _, _, _, _, _⟩ ?_
 refine Kn.takeR 8 ⟨some 18, _, _, _, _, _⟩ fun K hK => ?_
 go_simp
 refine (duo_sectors HY.out).mono ?_
 rintro en wn ⟨rfl, rfl⟩
 refine hK.out _ _ hSw0 (fun hSn => ?_)
 clear hK K hSw0
 have hSw0 := hSn
 clear hSn
 refine Kn.takeS 14 ⟨some 24, _, _, _, _, _⟩ (v := (.bool false)) (hy := fun w hSw => by
  have q0 := HPR.out
  go_simp) ?_
 refine Kn.takeS 15 ⟨some 25, _, _, _, _, _⟩ ?_
 refine Kn.takeS 16 ⟨some 26, _, _, _, _, _⟩ ?_
 refine Kn.takeS 17 ⟨some 27, _, _, _, _, _⟩ ?_
 refine Kn.takeS 19 ⟨some 29, _, _, _, _, _⟩ ?_
 refine Kn.takeS 20 ⟨some 30, _, _, _, _, _⟩ ?_
 refine Kn.takeS 21 ⟨some 31, _, _, _, _, _⟩ ?_
 refine Kn.takeS 22 ⟨some 32, _, _, _, _, _⟩ (v := (.slice Ah d.held.length ch)) (hy := fun w hSw => by
  have q0 := hSw.2.1
  go_simp) ?_
 refine Kn.takeS 23 ⟨some 33, _, _, _, _, _⟩ ?_
 refine Kn.takeR 18 ⟨some 28, _, _, _, _, _⟩ fun K hK => ?_
 go_simp
 refine (duo_held HY.out).mono ?_
 rintro en wn ⟨rfl, rfl⟩
 refine hK.out _ _ hSw0 (fun hSn => ?_)
 clear hK K hSw0
 have hSw0 := hSn
 clear hSn
 refine Kn.takeS 24 ⟨some 34, _, _, _, _, _⟩ (v := (.bool false)) (hy := fun w hSw => by
  go_simp) ?_
 refine Kn.takeS 25 ⟨some 35, _, _, _, _, _⟩ ?_
 refine Kn.takeS 26 ⟨some 36, _, _, _, _, _⟩ ?_
 refine Kn.takeS 27 ⟨some 37, _, _, _, _, _⟩ ?_
 refine Kn.takeS 29 ⟨some 39, _, _, _, _, _⟩ ?_
 refine Kn.takeS 30 ⟨some 40, _, _, _, _, _⟩ ?_
 refine Kn.takeS 31 ⟨some 41, _, _, _, _, _⟩ ?_
 refine Kn.takeS 32 ⟨some 42, _, _, _, _, _⟩ (v := (.int .i64 d.acts)) (hy := fun w hSw => by
  have q0 := hSw.2.2.2
  go_simp) ?_
 refine Kn.takeR 28 ⟨some 38, _, _, _, _, _⟩ fun K hK => ?_
 go_simp
 refine (duo_acts HY.out).mono ?_
 rintro en wn ⟨rfl, rfl⟩
 refine hK.out _ _ hSw0 (fun hSn => ?_)
 clear hK K hSw0
 have hSw0 := hSn
 clear hSn
 refine Kn.takeS 33 ⟨some 43, _, _, _, _, _⟩ (v := (.bool false)) (hy := fun w hSw => by
  go_simp) ?_
 refine Kn.takeS 34 ⟨some 44, _, _, _, _, _⟩ ?_
 refine Kn.takeS 35 ⟨some 45, _, _, _, _, _⟩ ?_
 refine Kn.takeS 36 ⟨some 46, _, _, _, _, _⟩ ?_
 refine Kn.takeS 38 ⟨some 48, _, _, _, _, _⟩ ?_
 refine Kn.takeS 39 ⟨some 49, _, _, _, _, _⟩ ?_
 refine Kn.takeS 40 ⟨some 50, _, _, _, _, _⟩ ?_
 refine Kn.takeS 41 ⟨some 51, _, _, _, _, _⟩ (v := (.bool d.off)) (hy := fun w hSw => by
  have q0 := hSw.2.2.1
  go_simp) ?_
 refine Kn.takeR 37 ⟨some 47, _, _, _, _, _⟩ fun K hK => ?_
 go_simp
 refine (duo_off HY.out).mono ?_
 rintro en wn ⟨rfl, rfl⟩
 refine hK.out _ _ hSw0 (fun hSn => ?_)
 clear hK K hSw0
 have hSw0 := hSn
 clear hSn
 refine Kn.takeS 42 ⟨some 52, _, _, _, _, _⟩ (v := (.bool false)) (hy := fun w hSw => by
  go_simp) ?_
 refine Kn.takeS 43 ⟨some 53, _, _, _, _, _⟩ ?_
 refine wpAnyH_done (by kernel_rfl) ?_ _
 clear hSw0 q1 q2 q3 q4
 have HX : Hid (Duo w0 wz p r d d c) := Lib.hid HY.out
 clear HY
 go_wp2_with fail
 go_loopg [5] r.N (fun rr s5 wr => ∃ j : Nat, j + rr = r.N ∧ s5 = .int .i64 (j : Int) ∧ Duo w0 wr p r d d c ∧ Only [] w wr)
 case atStart => exact ⟨0, by omega, rfl, HX.out, HOW.out⟩
 obtain ⟨j, hj, rfl, hd, hO⟩ := hrel
 have HR := Lib.hid hd
 have HO := Lib.hid hO
 have c0 := (duo_rcells hd).1
 clear hd hO
 by_cases hlt : j < r.N
 ·have hlt2 : (j : Int) < (r.N : Int) := by omega
  go_wp2_with fail
  obtain ⟨c1, hF, hP, back⟩ := HR.out.ofP
  refine (dk_read_any w0 _ p d c1 (j : Int) hP).mono ?_
  rintro en w3 ⟨A7, n7, c7, rfl, hfc, hO3⟩
  have HF1 := Lib.hid hfc
  have HR2 := Lib.hid (HR.out.keep0 hO3)
  have HO3 := Lib.hid (HO.out.trans' hO3)
  clear hF hP back hfc hO3 c0 HR
  go_wp2_with fail
  obtain ⟨c2, hF, hP, back⟩ := HR2.out.ofR
  refine (rk_read_own w0 _ r d c2 (j : Int) hP hh).mono ?_
  rintro en w4 hrs
  obtain ⟨A8, n8, c8, rfl, hfc, hO4⟩ := hrs.says
  have HF2 := Lib.hid ((HF1.out _ (fun k o _ hk _ => hk)).keep0 hO4)
  have HF3 := Lib.hid (hfc _ (fun k o _ hk _ => hk))
  have HR3 := Lib.hid (HR2.out.keep0 hO4)
  have HO4 := Lib.hid (HO3.out.trans' hO4)
  clear hF hP back hfc hO4 hrs HR2 HO3 HF1
  go_wp2_with fail
  refine (equal_any A7 n7 c7 (d.read (j : Int)) A8 n8 c8 (d.read (j : Int)) _ HF2.out HF3.out).mono ?_
  rintro en w5 ⟨rfl, kk, rfl⟩
  rw [decide_eq_true rfl]
  have HR4 := Lib.hid (HR3.out.keep0 ((Only.refl _ _).drewN kk))
  have HO5 := Lib.hid (HO4.out.drewN kk)
  clear HR3 HO4 HF2 HF3
  go_wp2
  go_roundg (gk - 1)
  case measure => omega
  case rel => exact ⟨j + 1, by omega, by go_num, HR4.out, HO5.out⟩
 ·obtain rfl : j = r.N := by omega
  go_wp2
  go_ret
  exact ⟨rfl, HO.out⟩
set_option maxRecDepth 100000 in
set_option maxHeartbeats 8000000 in
theorem yy_same {w0 w : World} {k : Yp} {z : Wr} {L : List (Nat × List Value)} {G : List Gs} {F : List (World → Prop)} {i : Nat} (h : YY w0 w k z z L G F) (hb : By k i z) :
  Calls Tryz.prog 52 #[.pointer (some ⟨k.Z, 0, none⟩)] w fun en w' => en = .returned (.bool true) ∧ Only [] w w' := by
 have HT := Lib.hid hb.b.ok
 have hun := hb.u
 have hqn := hb.n
 obtain ⟨A, c, B, m, sl, A', c', B', m', sl', hd⟩ := h
 obtain ⟨hr1, ⟨Ah, ch, hr2⟩, hr3, hr4⟩ := duo_rcells hd
 have HD := Lib.hid hd
 have HO : Hid (Only [] w w.drew) := Lib.hid (Only.refl _ _).drew
 have HKS : Hid (∀ w1 w2 : World, Only [] w1 w2 → (fun w' => Kn.Own w' k.Z k.box ∧ Kn.Own w' k.X (XB k.r k.u k.cf z.p (.slice A' z.its.length c') (.slice B' z.bl.length m')) ∧ w'.cell? ⟨k.r.M, 1, none⟩ = some (.slice Ah z.d.held.length ch) ∧ w'.cell? ⟨k.r.M, 5, none⟩ = some (.int .i64 z.d.acts)) w1 → (fun w' => Kn.Own w' k.Z k.box ∧ Kn.Own w' k.X (XB k.r k.u k.cf z.p (.slice A' z.its.length c') (.slice B' z.bl.length m')) ∧ w'.cell? ⟨k.r.M, 1, none⟩ = some (.slice Ah z.d.held.length ch) ∧ w'.cell? ⟨k.r.M, 5, none⟩ = some (.int .i64 z.d.acts)) w2) := Lib.hid (fun w1 w2 hO h => ⟨h.1.keep hO (by simp), h.2.1.keep hO (by simp), hO.cell h.2.2.1 (by simp), hO.cell h.2.2.2 (by simp)⟩)
 clear hd hb hr1 hr3
 go_enter Tryz.func52, Tryz.ntmps52
 go_wp2_with fail
 have HY := Lib.hid HD.out.drew
 clear HD
 refine wp_region_held_drew (S := (fun w' => Kn.Own w' k.Z k.box ∧ Kn.Own w' k.X (XB k.r k.u k.cf z.p (.slice A' z.its.length c') (.slice B' z.bl.length m')) ∧ w'.cell? ⟨k.r.M, 1, none⟩ = some (.slice Ah z.d.held.length ch) ∧ w'.cell? ⟨k.r.M, 5, none⟩ = some (.int .i64 z.d.acts))) (by kernel_rfl) ⟨HY.out.boxi 8 rfl, HY.out.boxi 4 rfl, hr2, hr4⟩ (fun hSw0 => ?_)
 generalize w.drew = wz at *
 refine Kn.takeS 0 ⟨some 3, _, _, _, _, _⟩ ?_
 refine Kn.takeS 1 ⟨some 4, _, _, _, _, _⟩ ?_
 refine Kn.takeS 2 ⟨some 5, _, _, _, _, _⟩ ?_
 refine Kn.takeS 3 ⟨some 6, _, _, _, _, _⟩ (v := (.pointer (some ⟨k.W, 0, none⟩))) (hy := fun w hSw => by
  have q0 := hSw.1.cellv 8
  go_simp) ?_
 refine Kn.takeS 5 ⟨some 8, _, _, _, _, _⟩ ?_
 refine Kn.takeS 6 ⟨some 9, _, _, _, _, _⟩ ?_
 refine Kn.takeS 7 ⟨some 10, _, _, _, _, _⟩ ?_
 refine Kn.takeS 8 ⟨some 11, _, _, _, _, _⟩ (v := (.pointer (some ⟨k.X, 0, none⟩))) (hy := fun w hSw => by
  have q0 := hSw.1.cellv 9
  go_simp) ?_
 refine Kn.takeS 9 ⟨some 12, _, _, _, _, _⟩ ?_
 refine Kn.takeS 10 ⟨some 13, _, _, _, _, _⟩ ?_
 refine Kn.takeS 11 ⟨some 14, _, _, _, _, _⟩ (v := (.agg #[.int .i64 z.p.s, .int .i64 z.p.o, .int .i64 z.p.l, .int .i64 z.p.p, .int .i64 z.p.m])) (hy := fun w hSw => by
  have q5 := hSw.2.1.cellv 5
  have q6 := hSw.2.1.cellv 6
  have q7 := hSw.2.1.cellv 7
  have q8 := hSw.2.1.cellv 8
  have q9 := hSw.2.1.cellv 9
  go_simp) ?_
 refine Kn.takeR 4 ⟨some 7, _, _, _, _, _⟩ fun K hK => ?_
 go_simp
 refine (wr_pos_any _ k.W k.p.D k.gb k.q.T z.p _ _ (HY.out.boxi 0 rfl)).mono ?_
 rintro en wp1 ⟨rfl, hO⟩
 have HYp := Lib.hid (HY.out.keep0 hO)
 have HOp := Lib.hid (HO.out.trans' hO)
 have hS1 := HKS.out _ _ hO hSw0
 clear hO HY
 refine hK.out _ _ hS1 (fun hSn => ?_)
 clear hS1
 clear hK K hSw0
 have hSw0 := hSn
 clear hSn
 refine Kn.takeS 12 ⟨some 15, _, _, _, _, _⟩ (v := (.bool true)) (hy := fun w hSw => by
  have hgd := Tryz.eqGuardType32
  go_simp) ?_
 refine Kn.takeS 13 ⟨some 16, _, _, _, _, _⟩ ?_
 refine Kn.takeS 14 ⟨some 17, _, _, _, _, _⟩ ?_
 refine Kn.takeS 15 ⟨some 18, _, _, _, _, _⟩ ?_
 refine Kn.takeS 16 ⟨some 19, _, _, _, _, _⟩ ?_
 refine Kn.takeS 17 ⟨some 20, _, _, _, _, _⟩ (v := (.pointer (some ⟨k.W, 0, none⟩))) (hy := fun w hSw => by
  have q0 := hSw.1.cellv 8
  go_simp) ?_
 refine Kn.takeS 19 ⟨some 22, _, _, _, _, _⟩ ?_
 refine Kn.takeS 20 ⟨some 23, _, _, _, _, _⟩ ?_
 refine Kn.takeS 21 ⟨some 24, _, _, _, _, _⟩ ?_
 refine Kn.takeS 22 ⟨some 25, _, _, _, _, _⟩ (v := (.pointer (some ⟨k.X, 0, none⟩))) (hy := fun w hSw => by
  have q0 := hSw.1.cellv 9
  go_simp) ?_
 refine Kn.takeS 23 ⟨some 26, _, _, _, _, _⟩ ?_
 refine Kn.takeS 24 ⟨some 27, _, _, _, _, _⟩ ?_
 refine Kn.takeS 25 ⟨some 28, _, _, _, _, _⟩ (v := (.slice A' z.its.length c')) (hy := fun w hSw => by
  have q0 := hSw.2.1.cellv 10
  go_simp) ?_
 refine Kn.takeS 26 ⟨some 29, _, _, _, _, _⟩ ?_
 refine Kn.takeR 18 ⟨some 21, _, _, _, _, _⟩ fun K hK => ?_
 go_simp
 refine (wr_waiting_any _ k.W k.p.D k.gb k.q.T z.p A _ c _ (HYp.out.boxi 0 rfl)).mono ?_
 rintro en wn ⟨rfl, rfl⟩
 refine hK.out _ _ hSw0 (fun hSn => ?_)
 clear hK K hSw0
 have hSw0 := hSn
 clear hSn
 refine Kn.takeS 27 ⟨some 30, _, _, _, _, _⟩ ?_
 refine Kn.takeS 28 ⟨some 31, _, _, _, _, _⟩ ?_
 refine Kn.takeS 29 ⟨some 32, _, _, _, _, _⟩ ?_
 refine Kn.takeS 30 ⟨some 33, _, _, _, _, _⟩ ?_
 refine Kn.takeS 31 ⟨some 34, _, _, _, _, _⟩ ?_
 refine Kn.takeS 32 ⟨some 35, _, _, _, _, _⟩ ?_
 refine Kn.takeS 33 ⟨some 36, _, _, _, _, _⟩ (v := (.pointer (some ⟨k.q.T, 0, none⟩))) (hy := fun w hSw => by
  have q0 := hSw.1.cellv 6
  go_simp) ?_
 refine Kn.takeS 35 ⟨some 38, _, _, _, _, _⟩ ?_
 refine Kn.takeS 36 ⟨some 39, _, _, _, _, _⟩ ?_
 refine Kn.takeS 37 ⟨some 40, _, _, _, _, _⟩ ?_
 refine Kn.takeS 38 ⟨some 41, _, _, _, _, _⟩ (v := (.pointer (some ⟨k.u.T, 0, none⟩))) (hy := fun w hSw => by
  have q0 := hSw.1.cellv 7
  go_simp) ?_
 refine Kn.takeR 34 ⟨some 37, _, _, _, _, _⟩ fun K hK => ?_
 go_simp
 refine (us_uses_any _ k.q z.t (HYp.out.boxi 1 rfl) (HYp.out.boxi 2 rfl) HT.out hqn).mono ?_
 rintro en wu1 ⟨Au, cu, rfl, hf, hO⟩
 have HYpu := Lib.hid (HYp.out.addFc hO hf)
 have HOu := Lib.hid (HOp.out.trans' hO)
 have hS1 := HKS.out _ _ hO hSw0
 clear hO HYp hf
 refine hK.out _ _ hS1 (fun hSn => ?_)
 clear hS1
 clear hK K hSw0
 have hSw0 := hSn
 clear hSn
 refine Kn.takeR 39 ⟨some 42, _, _, _, _, _⟩ fun K hK => ?_
 go_simp
 refine (rt_told_any _ k.u k.cf z.t (HYpu.out.boxi 5 rfl) (HYpu.out.boxi 6 rfl) (by rw [hun]; exact HT.out) (by omega)).mono ?_
 rintro en wt1 ⟨Av, cv, rfl, hf, hO⟩
 have HYput := Lib.hid (HYpu.out.addFc hO hf)
 have HOt := Lib.hid (HOu.out.trans' hO)
 have hS1 := HKS.out _ _ hO hSw0
 clear hO HYpu hf
 refine hK.out _ _ hS1 (fun hSn => ?_)
 clear hS1
 clear hK K hSw0
 have hSw0 := hSn
 clear hSn
 refine Kn.takeR 40 ⟨some 43, _, _, _, _, _⟩ fun K hK => ?_
 go_simp
 refine (alike_us_any Au _ cu z.t.us Av cv _ (HYput.out.fact (f := (fun W => Cel W Au z.t.us.length cu (usV z.t.us))) (List.mem_cons_of_mem _ List.mem_cons_self)) (HYput.out.fact (f := (fun W => Cel W Av z.t.us.length cv (usV z.t.us))) List.mem_cons_self) rfl).mono ?_
 rintro en wa1 ⟨rfl, hO⟩
 have HYputa := Lib.hid (HYput.out.keep0 hO)
 have HOa := Lib.hid (HOt.out.trans' hO)
 have hS1 := HKS.out _ _ hO hSw0
 clear hO HYput
 refine hK.out _ _ hS1 (fun hSn => ?_)
 clear hS1
 clear hK K hSw0
 have hSw0 := hSn
 clear hSn
 refine Kn.takeS 41 ⟨some 44, _, _, _, _, _⟩ ?_
 refine Kn.takeS 42 ⟨some 45, _, _, _, _, _⟩ ?_
 refine Kn.takeS 43 ⟨some 46, _, _, _, _, _⟩ ?_
 refine Kn.takeS 44 ⟨some 47, _, _, _, _, _⟩ ?_
 refine Kn.takeS 45 ⟨some 48, _, _, _, _, _⟩ ?_
 refine Kn.takeS 46 ⟨some 49, _, _, _, _, _⟩ (v := (.pointer (some ⟨k.p.D, 0, none⟩))) (hy := fun w hSw => by
  have q0 := hSw.1.cellv 0
  go_simp) ?_
 refine Kn.takeS 48 ⟨some 51, _, _, _, _, _⟩ ?_
 refine Kn.takeS 49 ⟨some 52, _, _, _, _, _⟩ ?_
 refine Kn.takeS 50 ⟨some 53, _, _, _, _, _⟩ ?_
 refine Kn.takeS 51 ⟨some 54, _, _, _, _, _⟩ (v := (.pointer (some ⟨k.r.M, 0, none⟩))) (hy := fun w hSw => by
  have q0 := hSw.1.cellv 1
  go_simp) ?_
 refine Kn.takeS 52 ⟨some 55, _, _, _, _, _⟩ ?_
 refine Kn.takeS 53 ⟨some 56, _, _, _, _, _⟩ ?_
 refine Kn.takeS 54 ⟨some 57, _, _, _, _, _⟩ (v := (.int .i64 z.d.acts)) (hy := fun w hSw => by
  have q0 := hSw.2.2.2
  go_simp) ?_
 refine Kn.takeR 47 ⟨some 50, _, _, _, _, _⟩ fun K hK => ?_
 go_simp
 refine (duo_acts HYputa.out).mono ?_
 rintro en wn ⟨rfl, rfl⟩
 refine hK.out _ _ hSw0 (fun hSn => ?_)
 clear hK K hSw0
 have hSw0 := hSn
 clear hSn
 refine Kn.takeS 55 ⟨some 58, _, _, _, _, _⟩ ?_
 refine Kn.takeS 56 ⟨some 59, _, _, _, _, _⟩ ?_
 refine Kn.takeS 57 ⟨some 60, _, _, _, _, _⟩ ?_
 refine Kn.takeS 58 ⟨some 61, _, _, _, _, _⟩ ?_
 refine Kn.takeS 59 ⟨some 62, _, _, _, _, _⟩ ?_
 refine Kn.takeS 60 ⟨some 63, _, _, _, _, _⟩ ?_
 refine Kn.takeS 61 ⟨some 64, _, _, _, _, _⟩ (v := (.pointer (some ⟨k.p.D, 0, none⟩))) (hy := fun w hSw => by
  have q0 := hSw.1.cellv 0
  go_simp) ?_
 refine Kn.takeS 63 ⟨some 66, _, _, _, _, _⟩ ?_
 refine Kn.takeS 64 ⟨some 67, _, _, _, _, _⟩ ?_
 refine Kn.takeS 65 ⟨some 68, _, _, _, _, _⟩ ?_
 refine Kn.takeS 66 ⟨some 69, _, _, _, _, _⟩ (v := (.pointer (some ⟨k.r.M, 0, none⟩))) (hy := fun w hSw => by
  have q0 := hSw.1.cellv 1
  go_simp) ?_
 refine Kn.takeS 67 ⟨some 70, _, _, _, _, _⟩ ?_
 refine Kn.takeS 68 ⟨some 71, _, _, _, _, _⟩ ?_
 refine Kn.takeS 69 ⟨some 72, _, _, _, _, _⟩ (v := (.slice Ah z.d.held.length ch)) (hy := fun w hSw => by
  have q0 := hSw.2.2.1
  go_simp) ?_
 refine Kn.takeS 70 ⟨some 73, _, _, _, _, _⟩ ?_
 refine Kn.takeR 62 ⟨some 65, _, _, _, _, _⟩ fun K hK => ?_
 go_simp
 refine (duo_held HYputa.out).mono ?_
 rintro en wn ⟨rfl, rfl⟩
 refine hK.out _ _ hSw0 (fun hSn => ?_)
 clear hK K hSw0
 have hSw0 := hSn
 clear hSn
 refine Kn.takeS 71 ⟨some 74, _, _, _, _, _⟩ ?_
 refine Kn.takeS 72 ⟨some 75, _, _, _, _, _⟩ ?_
 refine Kn.takeS 73 ⟨some 2, _, _, _, _, _⟩ ?_
 refine wpAnyH_done (by kernel_rfl) ?_ _
 clear hSw0
 go_wp2
 go_ret
 exact ⟨rfl, HOa.out⟩
end Go.Proofs.YtgcfdjcpcclcjaaGreat
namespace Go.Kn
open Go Go.RowKit
/-- an act of law15 -/
structure Ya where
 k : Int
 ik : Int
 ib : Int
 ic : Int
 iv : Int
 f : Int
 at_ : Int
 sp : Bool
def Ya.vals (x : Ya) : List Value := [.int .i64 x.k, .int .i64 x.ik, .int .i64 x.ib, .int .i64 x.ic, .int .i64 x.iv, .int .i64 x.f, .int .i64 x.at_, .bool x.sp]
structure WfY (x : Ya) : Prop where
 k : (Lit.int .i64 x.k).wf = true
 f : (Lit.int .i64 x.f).wf = true
 at_ : (Lit.int .i64 x.at_).wf = true
structure Yas (w : World) (A : Option Addr) (n c : Nat) (l : List Ya) : Prop where
 len : l.length = n
 le : n ≤ c
 cm : c ≤ maxLen
 cells : 0 < n → ∃ g o, A = some ⟨g, o, none⟩ ∧ ∀ i (h : i < l.length), ∀ j v, (l[i].vals)[j]? = some v → w.cell? ⟨g, o + (i * 8 + j), none⟩ = some v
theorem Yas.nil (w : World) : Yas w none 0 0 [] := ⟨rfl, Nat.le_refl _, Nat.zero_le _, fun h => absurd h (by omega)⟩
end Go.Kn
namespace Go.Proofs.YtgcfdjcpcclcjaaGreat
open Go.ChangeShapes Go.WideShapes Go.ChangeAt Go.RowKit Go.Kn Go.Deep
variable {H : Type} {enc : TypeId × Value → H}
/-- a slice of structs, opened to its cells -/
theorem open_slice_struct {P : Program} {w : World} {base : Nat} {spare : Nat → Bool} {held : Bool} {t e : TypeId} {C : Nat} {fuel : Nat} {cs : List Value} {x : DataW H × List MemPlace} (ht : P.underlying t = some (.slice e))
  (hC : P.cellsOf e = C) (h : DataW.trod enc P w base spare held fuel t cs = some x) :
  cs = [.slice none 0 0] ∨
  ∃ (a : Addr) (len cap m : Nat), cs = [.slice (some a) len cap] ∧ len ≤ cap ∧ cap ≤ maxLen ∧ len ≤ m ∧
   ∀ i, i < m → ∃ (vs : List Value) (n : Nat) (y : DataW H × List MemPlace), vs.length = C ∧ (∀ j v, vs[j]? = some v → w.cell? (a.add (i * C + j)) = some v) ∧ DataW.trod enc P w base spare held n e vs = some y := by
 rcases open_slice ht h with h0 | ⟨a, len, cap, m, n, D, Pl, hcs, hb, hl, hm, hmm, hx, hi⟩
 ·exact .inl h0.1
 ·refine .inr ⟨a, len, cap, m, hcs, hl, hm, by rw [hmm]; split <;> omega, fun i him => ?_⟩
  obtain ⟨cs', hc, ht'⟩ := hi i him
  rw [hC] at hc
  obtain ⟨_, hcl, hat⟩ := World.cells?_some hc
  refine ⟨cs', n, _, hcl, fun j v hj => ?_, ht'⟩
  have hjl : j < C := by rw [← hcl]; exact (List.getElem?_eq_some_iff.1 hj).1
  rw [← Go.Deep.add_add, hat j hjl, hj]
theorem open_bool2 {w : World} {base : Nat} {held : Bool} {fuel : Nat} {v : Value} {y : DataW H × List MemPlace} (h : DataW.trod enc Tryz.prog w base (fun _ => true) held fuel 4 [v] = some y) : ∃ b, v = .bool b := by
 obtain ⟨b, e0, _⟩ := DataW.trod_bool Tryz.underlying4 h
 simp at e0
 exact ⟨b, e0⟩
set_option maxRecDepth 100000 in
theorem open_yas {w : World} {base : Nat} {held : Bool} {fuel : Nat} {a : Option Addr} {len cap : Nat} {x : DataW H × List MemPlace}
  (h : DataW.trod enc Tryz.prog w base (fun _ => true) held fuel 86 [.slice a len cap] = some x) : ∃ l, Yas w a len cap l ∧ ∀ e ∈ l, WfY e := by
 have hCe : Tryz.prog.cellsOf 97 = 8 := by kernel_rfl
 rcases open_slice_struct Tryz.underlying86 hCe h with hcs | ⟨b, l, c, m, hcs, hl, hm, hmm, hf⟩
 ·simp at hcs
  obtain ⟨rfl, rfl, rfl⟩ := hcs
  exact ⟨[], Yas.nil _, by simp⟩
 simp at hcs
 obtain ⟨rfl, rfl, rfl⟩ := hcs
 have hx : ∀ i, i < len → ∃ p : Ya, (∀ j v, (p.vals)[j]? = some v → w.cell? (b.add (i * 8 + j)) = some v) ∧ WfY p := by
  intro i hi
  obtain ⟨vs, n, y, hv8, hcell, htr⟩ := hf i (by omega)
  obtain ⟨c0, c1, c2, c3, c4, c5, c6, c7, rfl⟩ : ∃ c0 c1 c2 c3 c4 c5 c6 c7, vs = [c0, c1, c2, c3, c4, c5, c6, c7] := by
   match vs, hv8 with
   | [c0, c1, c2, c3, c4, c5, c6, c7], _ => exact ⟨c0, c1, c2, c3, c4, c5, c6, c7, rfl⟩
  obtain ⟨xs1, n1, _, _, _, hl1, hfs1⟩ := DataW.trod_struct Tryz.underlying97 htr
  have hm1 : xs1.length = 5 := hl1
  obtain ⟨y0, y1, y2, y3, y4, rfl⟩ : ∃ y0 y1 y2 y3 y4, xs1 = [y0, y1, y2, y3, y4] := by
   match xs1, hm1 with
   | [y0, y1, y2, y3, y4], _ => exact ⟨y0, y1, y2, y3, y4, rfl⟩
  have e0 : DataW.trod enc Tryz.prog w base (fun _ => true) held n1 3 (([c0, c1, c2, c3, c4, c5, c6, c7].drop 0).take (Tryz.prog.cellsOf 3)) = some y0 := hfs1 0 _ rfl
  rw [show Tryz.prog.cellsOf 3 = 1 from by kernel_rfl] at e0
  simp only [List.drop_zero, List.drop_succ_cons, List.take_succ_cons, List.take_zero] at e0
  have e1 : DataW.trod enc Tryz.prog w base (fun _ => true) held n1 63 (([c0, c1, c2, c3, c4, c5, c6, c7].drop 1).take (Tryz.prog.cellsOf 63)) = some y1 := hfs1 1 _ rfl
  rw [show Tryz.prog.cellsOf 63 = 4 from by kernel_rfl] at e1
  simp only [List.drop_zero, List.drop_succ_cons, List.take_succ_cons, List.take_zero] at e1
  have e2 : DataW.trod enc Tryz.prog w base (fun _ => true) held n1 3 (([c0, c1, c2, c3, c4, c5, c6, c7].drop 5).take (Tryz.prog.cellsOf 3)) = some y2 := hfs1 2 _ rfl
  rw [show Tryz.prog.cellsOf 3 = 1 from by kernel_rfl] at e2
  simp only [List.drop_zero, List.drop_succ_cons, List.take_succ_cons, List.take_zero] at e2
  have e3 : DataW.trod enc Tryz.prog w base (fun _ => true) held n1 3 (([c0, c1, c2, c3, c4, c5, c6, c7].drop 6).take (Tryz.prog.cellsOf 3)) = some y3 := hfs1 3 _ rfl
  rw [show Tryz.prog.cellsOf 3 = 1 from by kernel_rfl] at e3
  simp only [List.drop_zero, List.drop_succ_cons, List.take_succ_cons, List.take_zero] at e3
  have e4 : DataW.trod enc Tryz.prog w base (fun _ => true) held n1 4 (([c0, c1, c2, c3, c4, c5, c6, c7].drop 7).take (Tryz.prog.cellsOf 4)) = some y4 := hfs1 4 _ rfl
  rw [show Tryz.prog.cellsOf 4 = 1 from by kernel_rfl] at e4
  simp only [List.drop_zero, List.drop_succ_cons, List.take_succ_cons, List.take_zero] at e4
  obtain ⟨xs2, n2, _, _, _, hl2, hfs2⟩ := DataW.trod_struct Tryz.underlying63 e1
  have hm2 : xs2.length = 4 := hl2
  obtain ⟨u0, u1, u2, u3, rfl⟩ : ∃ u0 u1 u2 u3, xs2 = [u0, u1, u2, u3] := by
   match xs2, hm2 with
   | [u0, u1, u2, u3], _ => exact ⟨u0, u1, u2, u3, rfl⟩
  have g0 : DataW.trod enc Tryz.prog w base (fun _ => true) held n2 3 (([c1, c2, c3, c4].drop 0).take (Tryz.prog.cellsOf 3)) = some u0 := hfs2 0 _ rfl
  rw [show Tryz.prog.cellsOf 3 = 1 from by kernel_rfl] at g0
  simp only [List.drop_zero, List.drop_succ_cons, List.take_succ_cons, List.take_zero] at g0
  have g1 : DataW.trod enc Tryz.prog w base (fun _ => true) held n2 3 (([c1, c2, c3, c4].drop 1).take (Tryz.prog.cellsOf 3)) = some u1 := hfs2 1 _ rfl
  rw [show Tryz.prog.cellsOf 3 = 1 from by kernel_rfl] at g1
  simp only [List.drop_zero, List.drop_succ_cons, List.take_succ_cons, List.take_zero] at g1
  have g2 : DataW.trod enc Tryz.prog w base (fun _ => true) held n2 3 (([c1, c2, c3, c4].drop 2).take (Tryz.prog.cellsOf 3)) = some u2 := hfs2 2 _ rfl
  rw [show Tryz.prog.cellsOf 3 = 1 from by kernel_rfl] at g2
  simp only [List.drop_zero, List.drop_succ_cons, List.take_succ_cons, List.take_zero] at g2
  have g3 : DataW.trod enc Tryz.prog w base (fun _ => true) held n2 3 (([c1, c2, c3, c4].drop 3).take (Tryz.prog.cellsOf 3)) = some u3 := hfs2 3 _ rfl
  rw [show Tryz.prog.cellsOf 3 = 1 from by kernel_rfl] at g3
  simp only [List.drop_zero, List.drop_succ_cons, List.take_succ_cons, List.take_zero] at g3
  obtain ⟨z0, rfl, w0⟩ := open_int1 Tryz.underlying3 e0
  obtain ⟨z1, rfl, _⟩ := open_int1 Tryz.underlying3 g0
  obtain ⟨z2, rfl, _⟩ := open_int1 Tryz.underlying3 g1
  obtain ⟨z3, rfl, _⟩ := open_int1 Tryz.underlying3 g2
  obtain ⟨z4, rfl, _⟩ := open_int1 Tryz.underlying3 g3
  obtain ⟨z5, rfl, w5⟩ := open_int1 Tryz.underlying3 e2
  obtain ⟨z6, rfl, w6⟩ := open_int1 Tryz.underlying3 e3
  obtain ⟨z7, rfl⟩ := open_bool2 e4
  exact ⟨⟨z0, z1, z2, z3, z4, z5, z6, z7⟩, hcell, w0, w5, w6⟩
 obtain ⟨L, hL, hp⟩ := list_of hx
 refine ⟨L, ⟨hL, hl, hm, fun hn => ?_⟩, fun e he => ?_⟩
 ·have h00 := (hp 0 (by omega)).1 0 _ rfl
  have hz : ∃ u, w.cell? (b.add 0) = some u := ⟨_, by simpa using h00⟩
  have hb := add_none (i := 0) (by simpa using h00) hz
  have hb' : b = ⟨b.block, b.off, none⟩ := by
   have := hb
   unfold Addr.add at this
   simpa using this
  refine ⟨b.block, b.off, by rw [← hb'], fun i hi j v hj => ?_⟩
  have p0 := (hp i hi).1 j v hj
  rwa [add_none p0 hz] at p0
 ·obtain ⟨i, hi, rfl⟩ := List.getElem_of_mem he
  exact (hp i hi).2
end Go.Proofs.YtgcfdjcpcclcjaaGreat
namespace Go.Proofs.YtgcfdjcpcclcjaaGreat
open Go Go.RowKit Go.Kn
/-- where all of it lies -/
structure Zp where
 p : PD
 r : RD
 W : Nat
 gb : Nat
 q : TD
 u : RT
 Z : Nat
 X : Nat
def Zp.box (k : Zp) : List Value := ZBx k.p k.r k.gb c8 k.q k.u (.pointer (some ⟨k.W, 0, none⟩)) (.pointer (some ⟨k.X, 0, none⟩))
def GE8 (gb : Nat) (W : World) : Prop := GeoAt W gb 8 8 24
def ZI (w0 w : World) (k : Zp) (z : Wr) (L : List (Nat × List Value)) (G : List Gs) (F : List (World → Prop)) : Prop :=
 k.q.n = 8 ∧ WrIn w0 w k.p k.r (Dk.new 202) k.W k.gb k.q z ((k.Z, k.box) :: L) G (GE8 k.gb :: F)
/-- numbers that are small -/
structure Bnd (z : Wr) : Prop where
 ok : z.t.Ok 8
 s : 0 ≤ z.p.s ∧ z.p.s ≤ 7
 o : 0 ≤ z.p.o ∧ z.p.o ≤ 23
 l : 1 ≤ z.p.l ∧ z.p.l ≤ 100000
 held : z.d.held.length ≤ 100000
 its : z.its.length ≤ 6
 bl : z.bl.length ≤ 6
 f64 : ∀ b ∈ z.bl, b.length = 64
theorem full_all {bl : List (List UInt8)} (h : full64 bl = true) : ∀ b ∈ bl, b.length = 64 := fun b hb => by
 have := List.all_eq_true.1 h b hb
 simpa using this
section
variable {w0 w w' : World} {k : Zp} {z : Wr} {L : List (Nat × List Value)} {G : List Gs} {F : List (World → Prop)}
theorem ZI.duo (h : ZI w0 w k z L G F) : ∃ L' G' F', Duo w0 w k.p k.r z.d (Dk.new 202) ⟨(k.W, L') :: k.q.L z.t ((k.Z, k.box) :: L), G', F'⟩ := by
 obtain ⟨_, A, c, B, m, sl, h⟩ := h
 exact ⟨_, _, _, h⟩
theorem ZI.only (h : ZI w0 w k z L G F) : Only [] w0 w := by
 obtain ⟨_, _, _, h⟩ := h.duo
 exact h.only
theorem ZI.keep0 (h : ZI w0 w k z L G F) (hO : Only [] w w') : ZI w0 w' k z L G F := by
 obtain ⟨hq, A, c, B, m, sl, h⟩ := h
 exact ⟨hq, A, c, B, m, sl, h.keep0 hO⟩
theorem ZI.drew (h : ZI w0 w k z L G F) : ZI w0 w.drew k z L G F := h.keep0 (Only.refl _ _).drew
theorem ZI.zbox (h : ZI w0 w k z L G F) : Kn.Own w k.Z k.box := by
 obtain ⟨_, _, _, h⟩ := h.duo
 exact h.boxi 4 rfl
theorem ZI.box (h : ZI w0 w k z L G F) {x : Nat × List Value} (hx : x ∈ L) : Kn.Own w x.1 x.2 := by
 obtain ⟨_, _, _, h⟩ := h.duo
 exact h.box (x := x) (by unfold TD.L; simp [hx])
theorem ZI.fact (h : ZI w0 w k z L G F) {f : World → Prop} (hf : f ∈ F) : f w := by
 obtain ⟨_, A, c, B, m, sl, h⟩ := h
 exact h.fact (by simp [hf])
theorem ZI.geo (h : ZI w0 w k z L G F) : GeoAt w k.gb c8.b c8.s c8.l := by
 obtain ⟨_, A, c, B, m, sl, h⟩ := h
 exact h.fact (f := GE8 k.gb) (by simp)
theorem ZI.newB (h : ZI w0 w k z L G F) (cs : Array Value) (t : TypeId) {b : Nat} (hb : w.heap.size = b) : ZI w0 (w.alloc (.cells cs t)) k z ((b, cs.toList) :: L) G F := by
 obtain ⟨hq, A, c, B, m, sl, h⟩ := h
 exact ⟨hq, A, c, B, m, sl, (h.newB cs t hb).permL (perm_any (fun c => by simp only [TD.L, List.map_cons, List.sum_cons]; omega))⟩
theorem ZI.ldrop {x : Nat × List Value} (h : ZI w0 w k z (x :: L) G F) : ZI w0 w k z L G F := by
 obtain ⟨hq, A, c, B, m, sl, h⟩ := h
 exact ⟨hq, A, c, B, m, sl, Duo.ldrop (x := x) (h.permL (perm_any (fun c => by simp only [TD.L, List.map_cons, List.sum_cons]; omega)))⟩
theorem ZI.head {b : Nat} {xs ys : List Value} (h : ZI w0 w k z ((b, xs) :: L) G F) (ho : Kn.Own w' b ys) (hO : Only [b] w w') : ZI w0 w' k z ((b, ys) :: L) G F := by
 obtain ⟨hq, A, c, B, m, sl, h⟩ := h
 exact ⟨hq, A, c, B, m, sl, h.call 5 rfl ho hO⟩
theorem ZI.addFc (h : ZI w0 w k z L G F) (hO : Only [] w w') {f : World → Prop} (hf : Fc w' (fun j => j < w.heap.size) f) : ZI w0 w' k z L G (f :: F) := by
 obtain ⟨hq, A, c, B, m, sl, h⟩ := h
 refine ⟨hq, A, c, B, m, sl, (h.addFc hO hf).subF fun g hg => ?_⟩
 simp only [List.mem_cons] at hg ⊢
 rcases hg with h | h | h | h <;> simp [h]
theorem ZI.subF (h : ZI w0 w k z L G F) {F' : List (World → Prop)} (hF : ∀ f ∈ F', f ∈ F) : ZI w0 w k z L G F' := by
 obtain ⟨hq, A, c, B, m, sl, h⟩ := h
 refine ⟨hq, A, c, B, m, sl, h.subF fun g hg => ?_⟩
 simp only [List.mem_cons] at hg ⊢
 rcases hg with h | h | h
 ·exact .inl h
 ·exact .inr (.inl h)
 ·exact .inr (.inr (hF _ h))
theorem ZI.fdrop {f : World → Prop} (h : ZI w0 w k z L G (f :: F)) : ZI w0 w k z L G F := h.subF fun g hg => List.mem_cons_of_mem _ hg
/-- a block that was filled -/
theorem ZI.addBy (h : ZI w0 w k z L G F) (hO : Only [] w w') {g : Nat} {b : List UInt8} (hg : w.heap.size ≤ g) (ho : Kn.Own w' g (bvs b)) (hl : b.length ≤ 64) : ZI w0 w' k z L G ((fun W => Bys W (some ⟨g, 0, none⟩) b.length b.length b) :: F) :=
 h.addFc hO (Row1.fc (Row1.of_Own ho (by rw [bvs_length]) (Nat.le_refl _) (Nat.le_trans hl (by decide))) (fun _ a ha => by injection ha with ha; subst ha; exact Nat.not_lt.2 hg))
theorem ZI.addFill (h : ZI w0 w k z L G F) (hO : Only [] w w') {g : Nat} {x : Int} (hg : w.heap.size ≤ g) (ho : Kn.Own w' g (bvs (fillB x))) : ZI w0 w' k z L G ((fun W => Bys W (some ⟨g, 0, none⟩) 64 64 (fillB x)) :: F) := by
 have := h.addBy hO hg ho (Nat.le_of_eq (fillB_length x))
 rwa [fillB_length] at this
theorem wr_new_nil (w : World) (gb T : Nat) (ps : Ps) : Calls Tryz.prog 107 #[.pointer none, .pointer (some ⟨gb, 0, none⟩), .pointer (some ⟨T, 0, none⟩), .agg #[.int .i64 ps.s, .int .i64 ps.o, .int .i64 ps.l, .int .i64 ps.p, .int .i64 ps.m]] w fun en w' => en = .returned (.pointer none) ∧ Only [] w w' := by
 go_enter Tryz.func107, Tryz.ntmps107
 go_wp2
 go_ret
 exact ⟨rfl, (Only.refl _ _).alloc _⟩
theorem waiting_nil (w : World) : Calls Tryz.prog 68 #[.pointer none] w fun en w' => en = .returned (.int .i64 0) ∧ w = w' := by
 go_enter Tryz.func68, Tryz.ntmps68
 go_wp2
 go_ret
 exact ⟨rfl, rfl⟩
theorem zi_new_none (h : ZI w0 w k z L G F) (ps : Ps) (hp : posMay 8 24 ps.s ps.o ps.l ps.p ps.m = false) : Calls Tryz.prog 107 #[.pointer (some ⟨k.p.D, 0, none⟩), .pointer (some ⟨k.gb, 0, none⟩), .pointer (some ⟨k.q.T, 0, none⟩), .agg #[.int .i64 ps.s, .int .i64 ps.o, .int .i64 ps.l, .int .i64 ps.p, .int .i64 ps.m]] w fun en w' => en = .returned (.pointer none) ∧ ZI w0 w' k z L G F := by
 obtain ⟨hq, A, c, B, m, sl, h⟩ := h
 have h1 := h.permL (L' := k.q.L z.t ((k.W, WB k.p.D k.gb k.q.T z.p (.slice A z.its.length c) (.slice B z.bl.length m)) :: (k.Z, k.box) :: L)) (perm_any (fun c => by simp only [TD.L, List.map_cons, List.sum_cons]; omega))
 refine (wr_new_any w0 w k.p k.r _ _ k.gb k.q z.t ps c8 _ _ _ h1 (by exact List.mem_cons_of_mem _ List.mem_cons_self) c8ok).mono ?_
 rintro en w1 hs
 rw [show posMay c8.s c8.l ps.s ps.o ps.l ps.p ps.m = false from hp] at hs
 obtain ⟨rfl, h2⟩ := hs
 exact ⟨rfl, hq, A, c, B, m, sl, h2.permL (perm_any (fun c => by simp only [TD.L, List.map_cons, List.sum_cons]; omega))⟩
theorem zi_add (h : ZI w0 w k z L G F) (hb : Bnd z) (ik ib ic iv : Int) {Ab : Option Addr} {n cb : Nat} {b : List UInt8} (sp : Bool) (hby : (fun W => Bys W Ab n cb b) ∈ F) (hn : n ≤ 100000) :
  Calls Tryz.prog 42 #[.pointer (some ⟨k.W, 0, none⟩), .agg #[.int .i64 ik, .int .i64 ib, .int .i64 ic, .int .i64 iv], .slice Ab n cb, .bool sp] w fun en w' => en = .returned (.tuple #[.int .i64 (z.add c8 ⟨ik, ib, ic, iv⟩ b sp).2.1, .int .i64 (z.add c8 ⟨ik, ib, ic, iv⟩ b sp).2.2]) ∧ ZI w0 w' k (z.add c8 ⟨ik, ib, ic, iv⟩ b sp).1 L G F := by
 obtain ⟨hq, h⟩ := h
 have hl := hb.l
 have hi := hb.its
 have hbl := hb.bl
 have hh := hb.held
 refine (wr_add_any w0 w k.p k.r _ k.W k.gb k.q z ik ib ic iv Ab n cb b sp c8 _ _ _ h (by exact List.mem_cons_self) (List.mem_cons_of_mem _ hby) c8ok (by rw [hq]; exact hb.ok) (by omega) hb.s (by have := hb.o; omega) (by omega) (by omega) (by omega) (by omega) hn).mono ?_
 rintro en w1 ⟨he, h1⟩
 exact ⟨he, hq, h1⟩
theorem zi_read (h : ZI w0 w k z L G F) (hb : Bnd z) (a : Int) :
  Calls Tryz.prog 46 #[.pointer (some ⟨k.W, 0, none⟩), .int .i64 a] w (RdSays w (z.rd c8 a).1 (z.rd c8 a).2) := by
 obtain ⟨hq, h⟩ := h
 exact wr_read_any w0 w k.p k.r _ k.W k.gb k.q z a c8 _ _ _ h (by exact List.mem_cons_self) c8ok (by have := hb.o; omega) (by have := hb.bl; omega) hb.f64
theorem zi_pos (h : ZI w0 w k z L G F) :
  Calls Tryz.prog 72 #[.pointer (some ⟨k.W, 0, none⟩)] w fun e w' => e = .returned (.agg #[.int .i64 z.p.s, .int .i64 z.p.o, .int .i64 z.p.l, .int .i64 z.p.p, .int .i64 z.p.m]) ∧ Only [] w w' := by
 obtain ⟨hq, A, c, B, m, sl, h⟩ := h
 exact wr_pos_any w k.W k.p.D k.gb k.q.T z.p _ _ (h.boxi 0 rfl)
theorem zi_waiting (h : ZI w0 w k z L G F) :
  Calls Tryz.prog 68 #[.pointer (some ⟨k.W, 0, none⟩)] w fun e w' => e = .returned (.int .i64 (z.its.length : Int)) ∧ w = w' := by
 obtain ⟨hq, A, c, B, m, sl, h⟩ := h
 exact wr_waiting_any w k.W k.p.D k.gb k.q.T z.p A _ c _ (h.boxi 0 rfl)
theorem zi_held (h : ZI w0 w k z L G F) : Calls Tryz.prog 109 #[.pointer (some ⟨k.p.D, 0, none⟩)] w fun en w' => en = .returned (.int .i64 (z.d.held.length : Nat)) ∧ w = w' := by
 obtain ⟨_, _, _, h⟩ := h.duo
 exact duo_held h
theorem zi_add_eq (h : ZI w0 w k z L G F) (hb : Bnd z) {ik ib ic iv : Int} {Ab : Option Addr} {n cb : Nat} {b : List UInt8} {sp : Bool} {y : Wr} {a e : Int} (he : z.add c8 ⟨ik, ib, ic, iv⟩ b sp = (y, a, e)) (hby : (fun W => Bys W Ab n cb b) ∈ F) (hn : n ≤ 100000) :
  Calls Tryz.prog 42 #[.pointer (some ⟨k.W, 0, none⟩), .agg #[.int .i64 ik, .int .i64 ib, .int .i64 ic, .int .i64 iv], .slice Ab n cb, .bool sp] w fun en w' => en = .returned (.tuple #[.int .i64 a, .int .i64 e]) ∧ ZI w0 w' k y L G F := by
 refine (zi_add h hb ik ib ic iv sp hby hn).mono ?_
 rw [he]
 exact fun _ _ h => h
theorem zi_read_eq (h : ZI w0 w k z L G F) (hb : Bnd z) {a e : Int} {b : List UInt8} (he : z.rd c8 a = (b, e)) :
  Calls Tryz.prog 46 #[.pointer (some ⟨k.W, 0, none⟩), .int .i64 a] w fun en w' => ∃ A n c, en = .returned (.tuple #[.slice A n c, .int .i64 e]) ∧ ZI w0 w' k z L G ((fun W => Bys W A n c b) :: F) := by
 refine (zi_read h hb a).mono ?_
 rw [he]
 rintro en w1 ⟨A, n, c, rfl, hf, hO⟩
 exact ⟨A, n, c, rfl, h.addFc hO hf⟩
theorem small15_any (w : World) : Calls Tryz.prog 66 #[] w fun e w' => e = .returned (.agg #[.int .i64 8, .int .i64 8, .int .i64 24]) ∧ Only [] w w' := by
 have hres : Tryz.f66.results = #[.cell 0 25] := by kernel_rfl
 have HRES := Lib.hid hres
 clear hres
 go_enter Tryz.func66, Tryz.ntmps66
 go_wp2
 refine bodyPost_ret (v := .agg #[.int .i64 8, .int .i64 8, .int .i64 24]) ?_ rfl ⟨rfl, ?_⟩
 ·simp only [results, HRES.out]
  go_simp
 ·exact (Only.refl _ _).alloc _
/-- law15.made on small -/
theorem made8_any' (w0 w : World) (ps : Ps) (A : Option Addr) (m c : Nat) (busy : List Int) (fr : Fr3) (h : Wc w0 w fr.L fr.G fr.F) (hb : (fun W => Ins W A m c busy) ∈ fr.F) (hm : m ≤ 1000) (hwf : (Lit.int .i64 ps.s).wf = true) (hbw : ∀ x ∈ busy, (Lit.int .i64 x).wf = true) (hp : posMay 8 24 ps.s ps.o ps.l ps.p ps.m = true) :
  Calls Tryz.prog 40 #[.agg #[.int .i64 8, .int .i64 8, .int .i64 24], .agg #[.int .i64 ps.s, .int .i64 ps.o, .int .i64 ps.l, .int .i64 ps.p, .int .i64 ps.m], .slice A m c] w fun en w' => ∃ (k : Zp) (L' : List (Nat × List Value)), en = .returned (.tuple #[.pointer (some ⟨k.Z, 0, none⟩), .bool true]) ∧ (∀ x ∈ fr.L, x ∈ L') ∧ ZI w0 w' k ⟨Dk.new 202, tbMade 8 c8 ps.s busy, ps, [], []⟩ L' fr.G fr.F := by
 refine (made_any w0 w c8 ps A m c busy fr 8 h c8ok rfl hb hm hwf hbw).mono ?_
 rintro en w1 ⟨p, r, gb, q, u, Z, rfl, hq, hu, hp1, hr1, hi⟩
 rw [show posMay c8.s c8.l ps.s ps.o ps.l ps.p ps.m = true from hp] at hi
 obtain ⟨W, X, hi⟩ := hi
 exact ⟨⟨p, r, W, gb, q, u, Z, X⟩, _, rfl, fun x hx => by unfold RT.L; simp [hx], hq, hi⟩
end
end Go.Proofs.YtgcfdjcpcclcjaaGreat
namespace Go.Proofs.YtgcfdjcpcclcjaaGreat
open Go Go.RowKit Go.Kn
theorem aw_bnd (i : Nat) (h : i ≤ 6) : Bnd (awk i) := by
 obtain ⟨l1, l2⟩ := aw_len i
 have hw := aw_hw i h
 exact { ok := tbMade_ok 8 c8 0 [], s := by show (0 : Int) ≤ 0 ∧ (0 : Int) ≤ 7; decide, o := by show (0 : Int) ≤ 0 ∧ (0 : Int) ≤ 23; decide, l := by show (1 : Int) ≤ 1 ∧ (1 : Int) ≤ 100000; decide, held := by show 0 ≤ 100000; decide, its := by omega, bl := by omega, f64 := full_all hw.f64 }
theorem field_pos15 (s o l p m : Int) (w : World) : (Instr.field 32 (.agg #[.int .i64 s, .int .i64 o, .int .i64 l, .int .i64 p, .int .i64 m]) 1).run Tryz.prog w = .ok (.int .i64 o) w := by kernel_rfl
set_option maxRecDepth 100000 in
set_option maxHeartbeats 16000000 in
theorem awake15_any (w : World) : Calls Tryz.prog 39 #[] w fun e w' => e = .returned (.bool true) ∧ Only [] w w' := by
 obtain ⟨y6, hy6, hyh, hyo, hyi⟩ := aw_mark
 have HY6 := Lib.hid hy6
 have HYH := Lib.hid hyh
 have HYO := Lib.hid hyo
 clear hy6 hyh hyo
 have HYB : Hid (Bnd (awk 6)) := Lib.hid (aw_bnd 6 (by decide))
 have H1 := Lib.hid (((Wc.start w).old (f := fun W => Ins W none 0 0 []) (fun W _ => Row1.nil W)).old (f := fun W => Bys W none 0 0 []) (fun W _ => Row1.nil W))
 go_enter Tryz.func39, Tryz.ntmps39
 go_wp2_with fail
 refine (small15_any _).mono ?_
 rintro en w1 ⟨rfl, hO⟩
 have H2 := Lib.hid (H1.out.keep0 hO)
 clear hO H1
 go_wp2_with fail
 refine (made8_any' w _ ⟨0, 0, 1, 0, 2⟩ none 0 0 [] ⟨[], [], [fun W => Bys W none 0 0 [], fun W => Ins W none 0 0 []]⟩ H2.out (by simp) (by decide) rfl (by simp) rfl).mono ?_
 rintro en w2 ⟨k, L', rfl, _, hd⟩
 have HX : Hid (ZI w w2 k (awk 0) L' [] [fun W => Bys W none 0 0 [], fun W => Ins W none 0 0 []]) := Lib.hid hd
 clear hd H2
 go_wp2_with fail
 have HY := Lib.hid HX.out.drew
 clear HX
 refine wp_region_held_drew (S := (fun w' => Kn.Own w' k.Z k.box)) (by kernel_rfl) HY.out.zbox (fun hSw0 => ?_)
 generalize w2.drew = wz at *
 refine Kn.takeS 0 ⟨some 22, _, _, _, _, _⟩ ?_
 refine Kn.takeS 1 ⟨some 23, _, _, _, _, _⟩ ?_
 refine Kn.takeS 2 ⟨some 24, _, _, _, _, _⟩ ?_
 refine Kn.takeS 3 ⟨some 25, _, _, _, _, _⟩ ?_
 refine Kn.takeS 4 ⟨some 26, _, _, _, _, _⟩ ?_
 refine Kn.takeS 5 ⟨some 27, _, _, _, _, _⟩ ?_
 refine Kn.takeS 6 ⟨some 28, _, _, _, _, _⟩ (v := (.pointer (some ⟨k.W, 0, none⟩))) (hy := fun w hSw => by
  have q0 := hSw.cellv 8
  go_simp) ?_
 refine Kn.takeS 7 ⟨some 29, _, _, _, _, _⟩ ?_
 refine Kn.takeS 8 ⟨some 30, _, _, _, _, _⟩ ?_
 refine Kn.takeS 9 ⟨some 31, _, _, _, _, _⟩ ?_
 refine Kn.takeS 10 ⟨some 32, _, _, _, _, _⟩ ?_
 refine Kn.takeS 11 ⟨some 33, _, _, _, _, _⟩ ?_
 refine Kn.takeS 12 ⟨some 34, _, _, _, _, _⟩ ?_
 refine Kn.takeS 13 ⟨some 35, _, _, _, _, _⟩ (v := (.pointer (some ⟨k.gb, 0, none⟩))) (hy := fun w hSw => by
  have q0 := hSw.cellv 2
  go_simp) ?_
 refine Kn.takeS 14 ⟨some 36, _, _, _, _, _⟩ ?_
 refine Kn.takeS 15 ⟨some 37, _, _, _, _, _⟩ ?_
 refine Kn.takeS 16 ⟨some 38, _, _, _, _, _⟩ ?_
 refine Kn.takeS 17 ⟨some 39, _, _, _, _, _⟩ (v := (.pointer (some ⟨k.q.T, 0, none⟩))) (hy := fun w hSw => by
  have q0 := hSw.cellv 6
  go_simp) ?_
 refine Kn.takeS 18 ⟨some 40, _, _, _, _, _⟩ ?_
 refine Kn.takeR 19 ⟨some 41, _, _, _, _, _⟩ fun K hK => ?_
 go_simp
 refine (wr_new_nil _ k.gb k.q.T ⟨0, 0, 1, 0, 2⟩).mono ?_
 rintro en wn ⟨rfl, hO⟩
 have HYn := Lib.hid (HY.out.keep0 hO)
 clear hO
 clear HY
 refine hK.out _ _ HYn.out.zbox (fun hSn => ?_)
 clear hK K hSw0
 have hSw0 := hSn
 clear hSn
 refine Kn.takeS 20 ⟨some 42, _, _, _, _, _⟩ ?_
 refine Kn.takeS 21 ⟨some 43, _, _, _, _, _⟩ ?_
 refine Kn.takeS 22 ⟨some 44, _, _, _, _, _⟩ ?_
 refine Kn.takeS 23 ⟨some 45, _, _, _, _, _⟩ ?_
 refine Kn.takeS 24 ⟨some 46, _, _, _, _, _⟩ ?_
 refine Kn.takeS 25 ⟨some 47, _, _, _, _, _⟩ ?_
 refine Kn.takeS 26 ⟨some 48, _, _, _, _, _⟩ (v := (.pointer (some ⟨k.p.D, 0, none⟩))) (hy := fun w hSw => by
  have q0 := hSw.cellv 0
  go_simp) ?_
 refine Kn.takeS 27 ⟨some 49, _, _, _, _, _⟩ ?_
 refine Kn.takeS 28 ⟨some 50, _, _, _, _, _⟩ ?_
 refine Kn.takeS 29 ⟨some 51, _, _, _, _, _⟩ ?_
 refine Kn.takeS 30 ⟨some 52, _, _, _, _, _⟩ (v := (.pointer (some ⟨k.gb, 0, none⟩))) (hy := fun w hSw => by
  have q0 := hSw.cellv 2
  go_simp) ?_
 refine Kn.takeS 31 ⟨some 53, _, _, _, _, _⟩ ?_
 refine Kn.takeS 32 ⟨some 54, _, _, _, _, _⟩ ?_
 refine Kn.takeS 33 ⟨some 55, _, _, _, _, _⟩ ?_
 refine Kn.takeS 34 ⟨some 56, _, _, _, _, _⟩ (v := (.pointer (some ⟨k.q.T, 0, none⟩))) (hy := fun w hSw => by
  have q0 := hSw.cellv 6
  go_simp) ?_
 refine Kn.takeS 35 ⟨some 57, _, _, _, _, _⟩ ?_
 refine Kn.takeR 36 ⟨some 58, _, _, _, _, _⟩ fun K hK => ?_
 go_simp
 refine (zi_new_none HYn.out ⟨0, 0, 0, 0, 0⟩ rfl).mono ?_
 rintro en wm ⟨rfl, hd⟩
 have HYnn := Lib.hid hd
 clear hd
 clear HYn
 refine hK.out _ _ HYnn.out.zbox (fun hSn => ?_)
 clear hK K hSw0
 have hSw0 := hSn
 clear hSn
 refine Kn.takeS 37 ⟨some 59, _, _, _, _, _⟩ ?_
 refine Kn.takeS 38 ⟨some 60, _, _, _, _, _⟩ ?_
 refine wpAnyH_done (by kernel_rfl) ?_ _
 clear hSw0
 go_wp2_with fail
 go_loopg [3, 4] 6 (fun rr t3 t4 wr => ∃ (j : Nat) (a : Int), j + rr = 6 ∧ t4 = .int .i64 (j : Int) ∧ t3 = .int .i64 a ∧ (j = 6 → a = 17) ∧ ZI w wr k (awk j) L' [] [fun W => Bys W none 0 0 [], fun W => Ins W none 0 0 []])
 case atStart => exact ⟨0, 0, by omega, rfl, rfl, by omega, HYnn.out⟩
 obtain ⟨j, a, hj, rfl, rfl, ha, hd⟩ := hrel
 have HR := Lib.hid hd
 have HAA := Lib.hid ha
 clear hd ha HYnn
 by_cases hlt : j < 6
 ·have hlt2 : (j : Int) < 6 := by omega
  have HA := Lib.hid (aw_add j hlt)
  have HB := Lib.hid (aw_bnd j (by omega))
  have HJW : Hid ((Lit.int .i64 (j : Int)).wf = true) := Lib.hid (by simp [Lit.wf, IntKind.min, IntKind.max, IntKind.signed, IntKind.bits]; omega)
  go_wp2_with fail
  have HY := Lib.hid HR.out.drew
  clear HR
  refine wp_region_held_drew (S := (fun w' => Kn.Own w' k.Z k.box)) (by kernel_rfl) HY.out.zbox (fun hSw0 => ?_)
  generalize wr.drew = wz at *
  refine Kn.takeS 0 ⟨some 66, _, _, _, _, _⟩ ?_
  refine Kn.takeS 1 ⟨some 67, _, _, _, _, _⟩ ?_
  refine Kn.takeS 2 ⟨some 68, _, _, _, _, _⟩ ?_
  refine Kn.takeS 3 ⟨some 69, _, _, _, _, _⟩ (v := (.pointer (some ⟨k.W, 0, none⟩))) (hy := fun w hSw => by
   have q0 := hSw.cellv 8
   go_simp) ?_
  refine Kn.takeS 4 ⟨some 70, _, _, _, _, _⟩ ?_
  refine Kn.takeS 5 ⟨some 71, _, _, _, _, _⟩ ?_
  refine Kn.takeS 6 ⟨some 72, _, _, _, _, _⟩ ?_
  refine Kn.takeR 7 ⟨some 73, _, _, _, _, _⟩ fun K hK => ?_
  go_simp
  refine (fill_any (j : Int) _ HJW.out).mono ?_
  rintro en wf ⟨g, rfl, hg, hown, hO⟩
  have HYf := Lib.hid (HY.out.addFill hO hg hown)
  clear hg hown hO
  clear HY
  refine hK.out _ _ HYf.out.zbox (fun hSn => ?_)
  clear hK K hSw0
  have hSw0 := hSn
  clear hSn
  refine Kn.takeR 8 ⟨some 74, _, _, _, _, _⟩ fun K hK => ?_
  go_simp
  refine (zi_add_eq HYf.out HB.out HA.out List.mem_cons_self (by decide)).mono ?_
  rintro en wa ⟨rfl, hd⟩
  have HYfa := Lib.hid hd.fdrop
  clear hd
  clear HYf
  refine hK.out _ _ HYfa.out.zbox (fun hSn => ?_)
  clear hK K hSw0
  have hSw0 := hSn
  clear hSn
  refine Kn.takeS 9 ⟨some 65, _, _, _, _, _⟩ ?_
  refine Kn.takeS 10 ⟨some 75, _, _, _, _, _⟩ ?_
  refine Kn.takeS 11 ⟨some 76, _, _, _, _, _⟩ ?_
  refine Kn.takeS 12 ⟨some 5, _, _, _, _, _⟩ ?_
  refine Kn.takeS 13 ⟨some 6, _, _, _, _, _⟩ ?_
  refine wpAnyH_done (by kernel_rfl) ?_ _
  clear hSw0
  go_wp2
  go_roundg (gk - 1)
  case measure => omega
  case rel => exact ⟨j + 1, 12 + (j : Int), by omega, by go_num, rfl, by omega, HYfa.out⟩
 ·obtain rfl : j = 6 := by omega
  obtain rfl : a = 17 := HAA.out rfl
  go_wp2_with fail
  have HY := Lib.hid HR.out.drew
  clear HR
  refine wp_region_held_drew (S := (fun w' => Kn.Own w' k.Z k.box)) (by kernel_rfl) HY.out.zbox (fun hSw0 => ?_)
  generalize wr.drew = wz at *
  refine Kn.takeS 0 ⟨some 80, _, _, _, _, _⟩ ?_
  refine Kn.takeS 1 ⟨some 81, _, _, _, _, _⟩ ?_
  refine Kn.takeS 2 ⟨some 82, _, _, _, _, _⟩ ?_
  refine Kn.takeS 3 ⟨some 83, _, _, _, _, _⟩ (v := (.pointer (some ⟨k.W, 0, none⟩))) (hy := fun w hSw => by
   have q0 := hSw.cellv 8
   go_simp) ?_
  refine Kn.takeS 5 ⟨some 85, _, _, _, _, _⟩ ?_
  refine Kn.takeS 6 ⟨some 86, _, _, _, _, _⟩ ?_
  refine Kn.takeS 7 ⟨some 87, _, _, _, _, _⟩ ?_
  refine Kn.takeS 8 ⟨some 88, _, _, _, _, _⟩ (v := (.pointer (some ⟨k.p.D, 0, none⟩))) (hy := fun w hSw => by
   have q0 := hSw.cellv 0
   go_simp) ?_
  refine Kn.takeR 4 ⟨some 84, _, _, _, _, _⟩ fun K hK => ?_
  go_simp
  refine (zi_waiting HY.out).mono ?_
  rintro en wn ⟨rfl, rfl⟩
  refine hK.out _ _ HY.out.zbox (fun hSn => ?_)
  clear hK K hSw0
  have hSw0 := hSn
  clear hSn
  refine Kn.takeR 9 ⟨some 89, _, _, _, _, _⟩ fun K hK => ?_
  go_simp
  refine (zi_held HY.out).mono ?_
  rintro en wn ⟨rfl, rfl⟩
  refine hK.out _ _ HY.out.zbox (fun hSn => ?_)
  clear hK K hSw0
  have hSw0 := hSn
  clear hSn
  refine Kn.takeS 10 ⟨some 7, _, _, _, _, _⟩ ?_
  refine Kn.takeS 11 ⟨some 8, _, _, _, _, _⟩ ?_
  refine wpAnyH_done (by kernel_rfl) ?_ _
  clear hSw0
  have c0 := HY.out.zbox.cellv 8
  go_wp2_with fail
  refine (zi_read_eq HY.out HYB.out aw_read).mono ?_
  rintro en w3 ⟨A, n, c, rfl, hd⟩
  have H3 := Lib.hid hd
  clear hd HY c0
  have c0 := H3.out.zbox.cellv 8
  go_wp2_with fail
  refine (zi_add_eq H3.out HYB.out aw_next (List.mem_cons_of_mem _ List.mem_cons_self) (by decide)).mono ?_
  rintro en w4 ⟨rfl, hd⟩
  have H4 := Lib.hid hd
  clear hd H3 c0
  have c0 := H4.out.zbox.cellv 8
  go_wp2_with fail
  refine (zi_add_eq H4.out HYB.out HY6.out (List.mem_cons_of_mem _ List.mem_cons_self) (by decide)).mono ?_
  rintro en w5 ⟨rfl, hd⟩
  have H5 := Lib.hid hd
  clear hd H4 c0
  go_wp2_with fail
  refine (fill_any 5 _ (by decide)).mono ?_
  rintro en w6 ⟨g, rfl, hg, hown, hO⟩
  have H6 := Lib.hid (H5.out.addFill hO hg hown)
  clear hg hown hO H5
  go_wp2_with fail
  refine (alike_bytes_any A n c (fillB 5) (some ⟨g, 0, none⟩) 64 64 (fillB 5) _ (H6.out.fact (f := (fun W => Bys W A n c (fillB 5))) (by simp)) (H6.out.fact (f := (fun W => Bys W (some ⟨g, 0, none⟩) 64 64 (fillB 5))) (by simp))).mono ?_
  rintro en w7 ⟨rfl, nk, rfl⟩
  rw [decide_eq_true (rfl : fillB 5 = fillB 5)]
  have H7 := Lib.hid (H6.out.keep0 ((Only.refl _ _).drewN nk))
  clear H6
  have c0 := H7.out.zbox.cellv 2
  go_wp2_with fail
  refine (geom_seg_any k.gb c8 0 _ H7.out.geo c8ok).mono ?_
  rintro en w8 ⟨rfl, hO⟩
  have H8 := Lib.hid (H7.out.keep0 hO)
  clear hO H7 c0
  have hat : c8.at_ 0 = 10 := rfl
  rw [hat]
  have c0 := H8.out.zbox.cellv 0
  have c8 := H8.out.zbox.cellv 8
  go_wp2_with fail
  refine (zi_held H8.out).mono ?_
  rintro en w9 ⟨rfl, rfl⟩
  rw [HYH.out]
  go_wp2_with fail
  refine (zi_pos H8.out).mono ?_
  rw [HYO.out]
  rintro en w9 ⟨rfl, hO⟩
  have H9 := Lib.hid (H8.out.keep0 hO)
  clear hO H8 c0 c8
  have fp := field_pos15 y6.p.s 8 y6.p.l y6.p.p y6.p.m
  go_wp2_with fail
  refine (waiting_nil _).mono ?_
  rintro en w10 ⟨rfl, rfl⟩
  go_wp2
  go_ret
  exact ⟨rfl, H9.out.only⟩
end Go.Proofs.YtgcfdjcpcclcjaaGreat
namespace Go.Kn
open Go Go.RowKit
theorem Yas.fc {w : World} {A : Option Addr} {n c : Nat} {l : List Ya} (h : Yas w A n c l) : Fc w (fun _ => False) (fun W => Yas W A n c l) := fun W hW => ⟨h.len, h.le, h.cm, fun hn => by
 obtain ⟨g, o, e, hc⟩ := h.cells hn
 exact ⟨g, o, e, fun i hi j v hj => fc_cell (hc i hi j v hj) (fun h => h) W hW⟩⟩
theorem Yas.at8 {w : World} {g o : Nat} {l : List Ya} (h : ∀ i (h : i < l.length), ∀ j v, (l[i].vals)[j]? = some v → w.cell? ⟨g, o + (i * 8 + j), none⟩ = some v) {i : Nat} (hi : i < l.length) {x : Ya} (hx : l[i] = x) :
  w.cell? ⟨g, o + i * 8, none⟩ = some (.int .i64 x.k) ∧ w.cell? ⟨g, o + i * 8 + 1, none⟩ = some (.int .i64 x.ik) ∧ w.cell? ⟨g, o + i * 8 + 2, none⟩ = some (.int .i64 x.ib) ∧ w.cell? ⟨g, o + i * 8 + 3, none⟩ = some (.int .i64 x.ic) ∧ w.cell? ⟨g, o + i * 8 + 4, none⟩ = some (.int .i64 x.iv) ∧ w.cell? ⟨g, o + i * 8 + 5, none⟩ = some (.int .i64 x.f) ∧ w.cell? ⟨g, o + i * 8 + 6, none⟩ = some (.int .i64 x.at_) ∧ w.cell? ⟨g, o + i * 8 + 7, none⟩ = some (.bool x.sp) := by
 subst hx
 refine ⟨?_, ?_, ?_, ?_, ?_, ?_, ?_, ?_⟩
 ·exact h i hi 0 _ rfl
 ·exact h i hi 1 _ rfl
 ·exact h i hi 2 _ rfl
 ·exact h i hi 3 _ rfl
 ·exact h i hi 4 _ rfl
 ·exact h i hi 5 _ rfl
 ·exact h i hi 6 _ rfl
 ·exact h i hi 7 _ rfl
end Go.Kn
namespace Go.Proofs.YtgcfdjcpcclcjaaGreat
open Go Go.RowKit Go.Kn
theorem MdIn.box {w0 w' : World} {p : PD} {r : RD} {gb : Nat} {cf : Cf} {q : TD} {u : RT} {Z N : Nat} {t : Tb} {ps : Ps} {fr : Fr3} {b : Bool} (h : MdIn w0 w' p r gb cf q u Z N t ps fr b) {x : Nat × List Value} (hx : x ∈ fr.L) : Kn.Own w' x.1 x.2 := by
 cases b with
 | false => exact Duo.box h (x := x) (by unfold TD.L RT.L; simp [hx])
 | true =>
  obtain ⟨W, X, A, c, B, m, sl, h⟩ := h
  exact Duo.box h (x := x) (by unfold TD.L RT.L; simp [hx])
theorem yy_start {w0 w : World} {p : PD} {r : RD} {gb : Nat} {cf : Cf} {q : TD} {u : RT} {W X Z N : Nat} {t : Tb} {ps : Ps} {L : List (Nat × List Value)} {G : List Gs} {F : List (World → Prop)}
  (h : WrIn w0 w p r (Dk.new N) W gb q ⟨Dk.new N, t, ps, [], []⟩ ((Z, ZBx p r gb cf q u (.pointer (some ⟨W, 0, none⟩)) (.pointer (some ⟨X, 0, none⟩))) :: (X, XB r u cf ps (.slice none 0 0) (.slice none 0 0)) :: u.L cf t L) G ((fun W => GeoAt W gb cf.b cf.s cf.l) :: F)) :
  YY w0 w ⟨p, r, W, X, gb, q, u, Z, cf⟩ ⟨Dk.new N, t, ps, [], []⟩ ⟨Dk.new N, t, ps, [], []⟩ L G F := by
 obtain ⟨A, c, B, m, sl, h⟩ := h
 have h1 := ((h.gnew 47 1).gnew 63 4).permL (L' := (W, WB p.D gb q.T ps (.slice A 0 c) (.slice B 0 m)) :: q.L t ((X, XB r u cf ps (.slice none 0 0) (.slice none 0 0)) :: u.L cf t ((Z, ZBx p r gb cf q u (.pointer (some ⟨W, 0, none⟩)) (.pointer (some ⟨X, 0, none⟩))) :: L))) (perm_any (fun c => by simp only [TD.L, RT.L, List.map_cons, List.sum_cons, List.length_nil]; omega))
 have h2 := Duo.permG h1 ((List.perm_append_comm (l₁ := [_, _]) (l₂ := [_, _])).append_right G)
 exact ⟨A, c, B, m, sl, none, 0, none, 0, [], h2.impF (F' := (fun W => Bls W sl []) :: (fun W => Bls W [] []) :: (fun W => GeoAt W gb cf.b cf.s cf.l) :: F) (fun g hg V hV => by
  simp only [List.mem_cons] at hg
  rcases hg with rfl | rfl | hg
  ·exact hV _ List.mem_cons_self
  ·exact Bls.nil
  ·exact hV g (List.mem_cons_of_mem _ (by simpa using hg)))⟩
@[reducible] def Yp.at_ (k : Yp) (K : Nat) : Yp := { k with r := { k.r with K := K } }
end Go.Proofs.YtgcfdjcpcclcjaaGreat
namespace Go.Proofs.YtgcfdjcpcclcjaaGreat
open Go Go.RowKit Go.Kn
theorem YY.cellsK {w0 w : World} {k : Yp} {K : Nat} {z y : Wr} {L : List (Nat × List Value)} {G : List Gs} {F : List (World → Prop)} (h : YY w0 w (k.at_ K) z y L G F) : w.cell? ⟨k.Z, 0, none⟩ = some (.pointer (some ⟨k.p.D, 0, none⟩)) ∧ w.cell? ⟨k.Z, 1, none⟩ = some (.pointer (some ⟨k.r.M, 0, none⟩)) ∧ w.cell? ⟨k.r.M, 4, none⟩ = some (.bool y.d.off) := ⟨h.cells.1.1, h.cells.1.2.1, h.cells.2.2.2.1⟩
theorem By.next {k : Yp} {kk j K1 : Nat} {z z1 : Wr} (h : By (k.at_ kk) j z) (hb : Bw k.cf k.q.n (1073741824 + 2 * ((j + 1 : Nat) : Int)) (16 * (j + 1)) z1) (hK : K1 ≤ 4 * (j + 1)) (hj : j + 1 ≤ 100) : By (k.at_ K1) (j + 1) z1 := ⟨hb, h.ok, h.s, h.u, h.n, hj, hK⟩
set_option maxRecDepth 100000 in
set_option maxHeartbeats 16000000 in
theorem plays15_any (l0 l1 l2 : Int) (ps : Ps) (A1 : Option Addr) (m1 c1 : Nat) (busy : List Int) (A2 : Option Addr) (n c2 : Nat) (acts : List Ya) (w : World) (h0 : (Lit.int .i64 l0).wf = true) (h1 : (Lit.int .i64 l1).wf = true) (h2 : (Lit.int .i64 l2).wf = true) (hpw : (Lit.int .i64 ps.s).wf = true) (hbs : Ins w A1 m1 c1 busy) (hbw : ∀ x ∈ busy, (Lit.int .i64 x).wf = true) (hac : Yas w A2 n c2 acts) (haw : ∀ e ∈ acts, WfY e) :
  Calls Tryz.prog 7 #[.agg #[.int .i64 l0, .int .i64 l1, .int .i64 l2], .agg #[.int .i64 ps.s, .int .i64 ps.o, .int .i64 ps.l, .int .i64 ps.p, .int .i64 ps.m], .slice A1 m1 c1, .slice A2 n c2] w fun e w' => e = .returned (.bool true) ∧ Only [] w w' := by
 have hln := hac.len
 have hn2 := hac.le
 have hn3 := hac.cm
 have hm2 := hbs.le
 have hm3 := hbs.cm
 unfold maxLen at hn3 hm3
 have hs1 : (w.alloc (.cells #[.int .i64 l0, .int .i64 l1, .int .i64 l2] 71)).heap.size = w.heap.size + 1 := by simp
 have H2 := Lib.hid (((((Wc.start w).old (f := fun W => Ins W A1 m1 c1 busy) (Row1.fc hbs (fun _ _ _ => id))).old (f := fun W => Yas W A2 n c2 acts) hac.fc).newB #[.int .i64 l0, .int .i64 l1, .int .i64 l2] 71 rfl).newB #[.int .i64 ps.s, .int .i64 ps.o, .int .i64 ps.l, .int .i64 ps.p, .int .i64 ps.m] 32 hs1)
 have hO2 : Only [] w ((w.alloc (.cells #[.int .i64 l0, .int .i64 l1, .int .i64 l2] 71)).alloc (.cells #[.int .i64 ps.s, .int .i64 ps.o, .int .i64 ps.l, .int .i64 ps.p, .int .i64 ps.m] 32)) := ((Only.refl _ _).alloc _).alloc _
 have HL0 := Lib.hid h0
 have HL1 := Lib.hid h1
 have HL2 := Lib.hid h2
 have HPW := Lib.hid hpw
 have HBW := Lib.hid hbw
 have HLN := Lib.hid hln
 have HAC := Lib.hid haw
 clear h0 h1 h2 hpw hbw hln haw hbs hac hs1
 by_cases hm : (m1 : Int) > 40
 ·go_enter Tryz.func7, Tryz.ntmps7
  go_wp2_with fail
  refine (awake15_any _).mono ?_
  rintro en w9 ⟨rfl, hO9⟩
  have HO := Lib.hid (hO2.trans' hO9)
  clear hO9 hO2
  go_wp2
  go_ret
  exact ⟨rfl, HO.out⟩
 by_cases hn : (n : Int) > 80
 ·go_enter Tryz.func7, Tryz.ntmps7
  go_wp2_with fail
  refine (awake15_any _).mono ?_
  rintro en w9 ⟨rfl, hO9⟩
  have HO := Lib.hid (hO2.trans' hO9)
  clear hO9 hO2
  go_wp2
  go_ret
  exact ⟨rfl, HO.out⟩
 clear hO2
 obtain ⟨cf, hcf⟩ : ∃ cf : Cf, cf = ⟨1 + l0 % 24, 8 + l1 % 3, 24 + l2 % 4⟩ := ⟨_, rfl⟩
 have hcb : 1 + l0 % 24 = cf.b := by rw [hcf]
 have hcs : 8 + l1 % 3 = cf.s := by rw [hcf]
 have hcl : 24 + l2 % 4 = cf.l := by rw [hcf]
 have hok : cf.Ok := by
  show (1 ≤ cf.b ∧ cf.b ≤ 64) ∧ (8 ≤ cf.s ∧ cf.s ≤ 32) ∧ (24 ≤ cf.l ∧ cf.l ≤ 64)
  omega
 obtain ⟨nq, hnq⟩ : ∃ nq : Nat, cf.s = (nq : Int) := ⟨cf.s.toNat, by omega⟩
 have hnqb : nq ≤ 10 := by omega
 have HCB := Lib.hid hcb
 have HCS := Lib.hid hcs
 have HCL := Lib.hid hcl
 have HCOK := Lib.hid hok
 have HNQ := Lib.hid hnq
 clear hcf hcb hcs hcl hok hnq
 go_enter Tryz.func7, Tryz.ntmps7
 go_upto_region 3 with (fail)
 generalize hvz : (w.alloc (.cells #[.int .i64 l0, .int .i64 l1, .int .i64 l2] 71)).alloc (.cells #[.int .i64 ps.s, .int .i64 ps.o, .int .i64 ps.l, .int .i64 ps.p, .int .i64 ps.m] 32) = w1 at *
 generalize w.heap.size + 1 = f5 at *
 generalize w.heap.size = f4 at *
 clear hvz
 have HY := Lib.hid H2.out.drew
 clear H2
 refine wp_region_held_drew (S := (fun w' => Kn.Own w' f5 [.int .i64 ps.s, .int .i64 ps.o, .int .i64 ps.l, .int .i64 ps.p, .int .i64 ps.m] ∧ Kn.Own w' f4 [.int .i64 l0, .int .i64 l1, .int .i64 l2])) (by kernel_rfl) ⟨HY.out.boxi 0 rfl, HY.out.boxi 1 rfl⟩ (fun hSw0 => ?_)
 generalize w1.drew = wz at *
 refine Kn.takeS 0 ⟨some 32, _, _, _, _, _⟩ (v := (.agg #[.int .i64 l0, .int .i64 l1, .int .i64 l2])) (hy := fun w hSw => by
  obtain ⟨q0, q1, q2⟩ := own3 hSw.2
  go_simp) ?_
 refine Kn.takeS 2 ⟨some 34, _, _, _, _, _⟩ (v := (.agg #[.int .i64 ps.s, .int .i64 ps.o, .int .i64 ps.l, .int .i64 ps.p, .int .i64 ps.m])) (hy := fun w hSw => by
  obtain ⟨q0, q1, q2, q3, q4⟩ := own5 hSw.1
  go_simp) ?_
 refine Kn.takeS 3 ⟨some 35, _, _, _, _, _⟩ ?_
 refine Kn.takeR 1 ⟨some 33, _, _, _, _, _⟩ fun K hK => ?_
 go_simp
 refine (alike_config_small l0 l1 l2 _ HL0.out HL1.out HL2.out).mono ?_
 rintro en w3 ⟨rfl, hO⟩
 rw [HCB.out, HCS.out, HCL.out]
 have HYc := Lib.hid (HY.out.keep0 hO)
 clear hO HY
 refine hK.out _ _ ⟨HYc.out.boxi 0 rfl, HYc.out.boxi 1 rfl⟩ (fun hSn => ?_)
 clear hK K hSw0
 have hSw0 := hSn
 clear hSn
 refine Kn.takeR 4 ⟨some 36, _, _, _, _, _⟩ fun K hK => ?_
 go_simp
 refine (made_any w _ cf ps A1 m1 c1 busy ⟨[(f5, [.int .i64 ps.s, .int .i64 ps.o, .int .i64 ps.l, .int .i64 ps.p, .int .i64 ps.m]), (f4, [.int .i64 l0, .int .i64 l1, .int .i64 l2])], [], [(fun W => Yas W A2 n c2 acts), (fun W => Ins W A1 m1 c1 busy)]⟩ nq HYc.out HCOK.out HNQ.out (List.mem_cons_of_mem _ List.mem_cons_self) (by omega) HPW.out HBW.out).mono ?_
 rintro en w4 ⟨p, r, gb, q, u, Z, rfl, hqn, hun, hpN, ⟨hrN, hrK⟩, hd⟩
 have HMD := Lib.hid hd
 clear hd HYc
 refine hK.out _ _ ⟨HMD.out.box (x := (f5, [.int .i64 ps.s, .int .i64 ps.o, .int .i64 ps.l, .int .i64 ps.p, .int .i64 ps.m])) List.mem_cons_self, HMD.out.box (x := (f4, [.int .i64 l0, .int .i64 l1, .int .i64 l2])) (List.mem_cons_of_mem _ List.mem_cons_self)⟩ (fun hSn => ?_)
 clear hK K hSw0
 have hSw0 := hSn
 clear hSn
 refine Kn.takeS 5 ⟨some 31, _, _, _, _, _⟩ ?_
 refine Kn.takeS 6 ⟨some 37, _, _, _, _, _⟩ ?_
 refine Kn.takeS 7 ⟨some 38, _, _, _, _, _⟩ ?_
 refine Kn.takeS 8 ⟨some 9, _, _, _, _, _⟩ ?_
 refine Kn.takeS 9 ⟨some 10, _, _, _, _, _⟩ ?_
 refine wpAnyH_done (by kernel_rfl) ?_ _
 clear hSw0
 have hd := HMD.out
 clear HMD
 cases hpm : posMay cf.s cf.l ps.s ps.o ps.l ps.p ps.m with
 | false =>
  rw [hpm] at hd
  have hz := hd.boxi 0 rfl
  have z8 := hz.cellv 8
  have z9 := hz.cellv 9
  have HO := Lib.hid hd.only
  clear hz hd
  go_wp2_with fail
  refine (awake15_any _).mono ?_
  rintro en w9 ⟨rfl, hO9⟩
  have HO2 := Lib.hid (HO.out.trans' hO9)
  clear hO9
  go_wp2
  go_ret
  exact ⟨rfl, HO2.out⟩
 | true =>
  rw [hpm] at hd
  obtain ⟨W, X, hwr⟩ := hd
  have hy := yy_start hwr
  obtain ⟨k, hk⟩ : ∃ k : Yp, (⟨p, r, W, X, gb, q, u, Z, cf⟩ : Yp) = k := ⟨_, rfl⟩
  have hk0 : k.at_ 0 = k := by
   rw [← hk]
   show (⟨p, { r with K := 0 }, W, X, gb, q, u, Z, cf⟩ : Yp) = _
   rw [← hrK]
  have hkc : k.cf = cf := by rw [← hk]
  have hkq : k.q.n = nq := by rw [← hk]; exact hqn
  have hku : k.u.n = nq := by rw [← hk]; exact hun
  have hkZ : k.Z = Z := by rw [← hk]
  rw [hk] at hy
  rw [← hkZ]
  obtain ⟨z0, hz0⟩ : ∃ z, (⟨Dk.new cf.sectors.toNat, tbMade nq cf ps.s busy, ps, [], []⟩ : Wr) = z := ⟨_, rfl⟩
  rw [hz0] at hy
  have hpm2 := hpm
  unfold posMay at hpm2
  simp only [Bool.and_eq_true, decide_eq_true_eq] at hpm2
  obtain ⟨p1, p2, p3, p4, p5⟩ := hpm2
  have hzl : z0.p.l = ps.l := by rw [← hz0]
  have h5 := own5 (hy.box (x := (f5, [.int .i64 ps.s, .int .i64 ps.o, .int .i64 ps.l, .int .i64 ps.p, .int .i64 ps.m])) List.mem_cons_self)
  obtain ⟨x0, x1, x2, x3, x4⟩ := h5
  obtain ⟨⟨zd, zm, _, _, zw, zx⟩, _, _⟩ := hy.cells
  have hbn : ps.l ≤ 1073741824 → By (k.at_ 0) 0 z0 := fun hl => ⟨⟨by rw [← hz0]; show (tbMade nq cf ps.s busy).Ok k.q.n; rw [hkq]; exact tbMade_ok _ _ _ _, by rw [← hz0]; show 0 ≤ ps.s ∧ ps.s ≤ k.cf.s - 1; rw [hkc]; exact p1, by rw [← hz0]; show 0 ≤ ps.o ∧ ps.o ≤ k.cf.l - 1; rw [hkc]; exact p2, by rw [← hz0]; show 0 ≤ ps.l ∧ ps.l ≤ _; omega, by rw [← hz0]; exact Nat.le_refl _, by rw [← hz0]; exact Nat.zero_le _, by rw [← hz0]; exact Nat.le_refl _, (by rw [← hz0]; intro b hb; cases hb), .inl (by rw [← hz0])⟩, by show k.cf.Ok; rw [hkc]; exact HCOK.out, by show k.cf.s = (k.q.n : Int); rw [hkc, hkq]; exact HNQ.out, by show k.u.n = k.q.n; rw [hku, hkq], by show k.q.n ≤ 1000; omega, by omega, Nat.le_refl _⟩
  have HY := Lib.hid hy
  have HBN := Lib.hid hbn
  have HK0 := Lib.hid hk0
  clear hbn hwr hk hpm p1 p2 p3 p4 p5 hzl hz0 hkc hkq hku hkZ hk0 hqn hun hpN hrN hrK hy
  by_cases hL : ps.l > 1073741824
  ·go_wp2_with fail
   refine (awake15_any _).mono ?_
   rintro en w9 ⟨rfl, hO9⟩
   have HO := Lib.hid (HY.out.only.trans' hO9)
   clear hO9
   go_wp2
   go_ret
   exact ⟨rfl, HO.out⟩
  have HB0 := Lib.hid (HBN.out (by omega))
  clear HBN
  have hy0 := HY.out
  rw [← HK0.out] at hy0
  have HE0 := Lib.hid hy0
  clear hy0 HY HK0
  go_wp2_with fail
  clear x0 x1 x2 x3 x4 zd zm zw zx
  go_loopg [11] n (fun rr s11 wr => ∃ (j : Nat) (z : Wr) (kk : Nat), j + rr = n ∧ s11 = .int .i64 (j : Int) ∧ YY w wr (k.at_ kk) z z [(f5, [.int .i64 ps.s, .int .i64 ps.o, .int .i64 ps.l, .int .i64 ps.p, .int .i64 ps.m]), (f4, [.int .i64 l0, .int .i64 l1, .int .i64 l2])] [] [(fun W => Yas W A2 n c2 acts), (fun W => Ins W A1 m1 c1 busy)] ∧ By (k.at_ kk) j z)
  case atStart => exact ⟨0, z0, 0, by omega, rfl, HE0.out, HB0.out⟩
  obtain ⟨j, z, kk, hj, rfl, hd, hb⟩ := hrel
  have HE := Lib.hid hd
  have HB := Lib.hid hb
  clear hd hb HE0 HB0
  by_cases hlt : j < n
  ·have hjl : j < acts.length := by rw [HLN.out]; exact hlt
   have hyas : Yas wr A2 n c2 acts := HE.out.fact List.mem_cons_self
   obtain ⟨ga, oa, hA2, hcell⟩ := hyas.cells (by omega)
   obtain ⟨⟨ak, ik, ib, ic, iv, af, aa, sp⟩, hx⟩ : ∃ x, acts[j] = x := ⟨_, rfl⟩
   obtain ⟨y0, y1, y2, y3, y4, y5, y6, y7⟩ := Yas.at8 hcell hjl hx
   have hw := HAC.out acts[j] (List.getElem_mem hjl)
   rw [hx] at hw
   obtain ⟨_, hwf, hwa⟩ := hw
   dsimp only at y0 y1 y2 y3 y4 y5 y6 y7 hwf hwa
   have HR1 := Lib.hid (HE.out.newB #[.int .i64 ak, .int .i64 ik, .int .i64 ib, .int .i64 ic, .int .i64 iv, .int .i64 af, .int .i64 aa, .bool sp] 97 (b := wr.heap.size) rfl)
   clear hyas hcell hx hjl HE
   subst hA2
   have hlt2 : (j : Int) < (n : Int) := by omega
   go_upto_region 14 with (fail)
   generalize hvz : wr.alloc (.cells #[.int .i64 ak, .int .i64 ik, .int .i64 ib, .int .i64 ic, .int .i64 iv, .int .i64 af, .int .i64 aa, .bool sp] 97) = wr1 at *
   generalize wr.heap.size = f12 at *
   clear hvz y0 y1 y2 y3 y4 y5 y6 y7
   obtain ⟨y0, y1, y2, y3, y4, y5, y6, y7⟩ := own8 (HR1.out.box (x := (f12, [.int .i64 ak, .int .i64 ik, .int .i64 ib, .int .i64 ic, .int .i64 iv, .int .i64 af, .int .i64 aa, .bool sp])) List.mem_cons_self)
   by_cases hk : ak = 1
   ·have hb1 : (ak == 1) = true := by rw [hk]; rfl
    have hb5 : (ak == 5) = false := by rw [hk]; rfl
    have hb2 : (ak == 2) = false := by rw [hk]; rfl
    have hb3 : (ak == 3) = false := by rw [hk]; rfl
    have hb4 : (ak == 4) = false := by rw [hk]; rfl
    clear hk
    have HFW := Lib.hid hwf
    go_wp2_with fail
    refine (data_any ik ib ic iv af _ HFW.out).mono ?_
    rintro en w5 ⟨A5, n5, c5, rfl, hn5, hf, hO⟩
    have HR := Lib.hid (HR1.out.addFc hO hf)
    have HN1 : Hid (n5 ≤ 100000) := Lib.hid (by omega)
    clear hf hO hn5 HR1 y0 y1 y2 y3 y4 y5 y6 y7
    obtain ⟨y0, y1, y2, y3, y4, y5, y6, y7⟩ := own8 (HR.out.box (x := (f12, [.int .i64 ak, .int .i64 ik, .int .i64 ib, .int .i64 ic, .int .i64 iv, .int .i64 af, .int .i64 aa, .bool sp])) List.mem_cons_self)
    have z8 := HR.out.zbox.cellv 8
    obtain ⟨z1, a1, e1, hza⟩ : ∃ z1 a1 e1, z.add (k.at_ kk).cf (⟨ik, ib, ic, iv⟩ : It) (dataB (⟨ik, ib, ic, iv⟩ : It) af) sp = (z1, a1, e1) := ⟨_, _, _, rfl⟩
    have hb1 : By (k.at_ (kk + 4)) (j + 1) z1 := HB.out.next (by have := add_b HB.out.ok HB.out.s HB.out.b (⟨ik, ib, ic, iv⟩ : It) (dataB (⟨ik, ib, ic, iv⟩ : It) af) sp; rw [hza] at this; exact this.mono (by omega) (by omega)) (by have := HB.out.K; dsimp only at this ⊢; omega) (by omega)
    have HB1 := Lib.hid hb1
    have HZA := Lib.hid hza
    clear hb1 hza
    go_wp2_with fail
    have HQ20 := Lib.hid HR.out.drew
    clear HR
    refine wp_region_held_drew (S := (fun w' => Kn.Own w' k.Z k.box ∧ Kn.Own w' f12 [.int .i64 ak, .int .i64 ik, .int .i64 ib, .int .i64 ic, .int .i64 iv, .int .i64 af, .int .i64 aa, .bool sp])) (by kernel_rfl) ⟨HQ20.out.zbox, HQ20.out.box (x := (f12, [.int .i64 ak, .int .i64 ik, .int .i64 ib, .int .i64 ic, .int .i64 iv, .int .i64 af, .int .i64 aa, .bool sp])) List.mem_cons_self⟩ (fun hSw0 => ?_)
    generalize w5.drew = wz20 at *
    refine Kn.takeS 0 ⟨some 100, _, _, _, _, _⟩ ?_
    refine Kn.takeS 1 ⟨some 101, _, _, _, _, _⟩ ?_
    refine Kn.takeS 2 ⟨some 102, _, _, _, _, _⟩ ?_
    refine Kn.takeS 3 ⟨some 103, _, _, _, _, _⟩ (v := (.pointer (some ⟨k.W, 0, none⟩))) (hy := fun w hSw => by
     have q0 := hSw.1.cellv 8
     go_simp) ?_
    refine Kn.takeS 4 ⟨some 104, _, _, _, _, _⟩ ?_
    refine Kn.takeS 5 ⟨some 105, _, _, _, _, _⟩ (v := (.agg #[.int .i64 ik, .int .i64 ib, .int .i64 ic, .int .i64 iv])) (hy := fun w hSw => by
     have q1 := hSw.2.cellv 1
     have q2 := hSw.2.cellv 2
     have q3 := hSw.2.cellv 3
     have q4 := hSw.2.cellv 4
     go_simp) ?_
    refine Kn.takeS 6 ⟨some 106, _, _, _, _, _⟩ ?_
    refine Kn.takeS 7 ⟨some 107, _, _, _, _, _⟩ ?_
    refine Kn.takeS 8 ⟨some 108, _, _, _, _, _⟩ (v := (.bool sp)) (hy := fun w hSw => by
     have q0 := hSw.2.cellv 7
     go_simp) ?_
    refine Kn.takeR 9 ⟨some 109, _, _, _, _, _⟩ fun K hK => ?_
    go_simp
    refine (yy_add (x := (⟨ik, ib, ic, iv⟩ : It)) HQ20.out HB.out sp List.mem_cons_self HN1.out).mono ?_
    rw [HZA.out]
    rintro en wa ⟨rfl, hd⟩
    have HQ20a := Lib.hid hd
    clear hd
    clear HQ20
    refine hK.out _ _ ⟨HQ20a.out.zbox, HQ20a.out.box (x := (f12, [.int .i64 ak, .int .i64 ik, .int .i64 ib, .int .i64 ic, .int .i64 iv, .int .i64 af, .int .i64 aa, .bool sp])) List.mem_cons_self⟩ (fun hSn => ?_)
    clear hK K hSw0
    have hSw0 := hSn
    clear hSn
    refine Kn.takeS 10 ⟨some 99, _, _, _, _, _⟩ ?_
    refine Kn.takeS 11 ⟨some 110, _, _, _, _, _⟩ ?_
    refine Kn.takeS 12 ⟨some 111, _, _, _, _, _⟩ ?_
    refine Kn.takeS 13 ⟨some 14, _, _, _, _, _⟩ ?_
    refine Kn.takeS 14 ⟨some 15, _, _, _, _, _⟩ ?_
    refine wpAnyH_done (by kernel_rfl) ?_ _
    clear hSw0
    go_wp2_with fail
    have HQ21 := Lib.hid HQ20a.out.drew
    clear HQ20a
    refine wp_region_held_drew (S := (fun w' => Kn.Own w' k.Z k.box ∧ Kn.Own w' f12 [.int .i64 ak, .int .i64 ik, .int .i64 ib, .int .i64 ic, .int .i64 iv, .int .i64 af, .int .i64 aa, .bool sp])) (by kernel_rfl) ⟨HQ21.out.zbox, HQ21.out.box (x := (f12, [.int .i64 ak, .int .i64 ik, .int .i64 ib, .int .i64 ic, .int .i64 iv, .int .i64 af, .int .i64 aa, .bool sp])) List.mem_cons_self⟩ (fun hSw0 => ?_)
    generalize wa.drew = wz21 at *
    refine Kn.takeS 0 ⟨some 113, _, _, _, _, _⟩ ?_
    refine Kn.takeS 1 ⟨some 114, _, _, _, _, _⟩ ?_
    refine Kn.takeS 2 ⟨some 115, _, _, _, _, _⟩ ?_
    refine Kn.takeS 3 ⟨some 116, _, _, _, _, _⟩ (v := (.pointer (some ⟨k.X, 0, none⟩))) (hy := fun w hSw => by
     have q0 := hSw.1.cellv 9
     go_simp) ?_
    refine Kn.takeS 4 ⟨some 117, _, _, _, _, _⟩ ?_
    refine Kn.takeS 5 ⟨some 118, _, _, _, _, _⟩ (v := (.agg #[.int .i64 ik, .int .i64 ib, .int .i64 ic, .int .i64 iv])) (hy := fun w hSw => by
     have q1 := hSw.2.cellv 1
     have q2 := hSw.2.cellv 2
     have q3 := hSw.2.cellv 3
     have q4 := hSw.2.cellv 4
     go_simp) ?_
    refine Kn.takeS 6 ⟨some 119, _, _, _, _, _⟩ ?_
    refine Kn.takeS 7 ⟨some 120, _, _, _, _, _⟩ ?_
    refine Kn.takeS 8 ⟨some 121, _, _, _, _, _⟩ (v := (.bool sp)) (hy := fun w hSw => by
     have q0 := hSw.2.cellv 7
     go_simp) ?_
    refine Kn.takeR 9 ⟨some 122, _, _, _, _, _⟩ fun K hK => ?_
    go_simp
    refine (yy_xadd (x := (⟨ik, ib, ic, iv⟩ : It)) HQ21.out HB.out sp List.mem_cons_self HN1.out).mono ?_
    rw [HZA.out]
    rintro en wb ⟨rfl, hd⟩
    have HQ21b := Lib.hid hd
    clear hd
    clear HQ21
    refine hK.out _ _ ⟨HQ21b.out.zbox, HQ21b.out.box (x := (f12, [.int .i64 ak, .int .i64 ik, .int .i64 ib, .int .i64 ic, .int .i64 iv, .int .i64 af, .int .i64 aa, .bool sp])) List.mem_cons_self⟩ (fun hSn => ?_)
    clear hK K hSw0
    have hSw0 := hSn
    clear hSn
    refine Kn.takeS 10 ⟨some 112, _, _, _, _, _⟩ ?_
    refine Kn.takeS 11 ⟨some 123, _, _, _, _, _⟩ ?_
    refine Kn.takeS 12 ⟨some 124, _, _, _, _, _⟩ ?_
    refine Kn.takeS 13 ⟨some 16, _, _, _, _, _⟩ ?_
    refine Kn.takeS 14 ⟨some 17, _, _, _, _, _⟩ ?_
    refine wpAnyH_done (by kernel_rfl) ?_ _
    clear hSw0
    have HX9 : Hid (YY w wb (k.at_ (kk + 4)) z1 z1 ((f12, [.int .i64 ak, .int .i64 ik, .int .i64 ib, .int .i64 ic, .int .i64 iv, .int .i64 af, .int .i64 aa, .bool sp]) :: [(f5, [.int .i64 ps.s, .int .i64 ps.o, .int .i64 ps.l, .int .i64 ps.p, .int .i64 ps.m]), (f4, [.int .i64 l0, .int .i64 l1, .int .i64 l2])]) [] [(fun W => Yas W (some ⟨ga, oa, none⟩) n c2 acts), (fun W => Ins W A1 m1 c1 busy)]) := Lib.hid HQ21b.out.fdrop
    clear HQ21b
    obtain ⟨zd, zm, m4⟩ := HX9.out.cellsK
    by_cases hof : z1.d.off = true
    ·rw [hof] at m4
     have HOF := Lib.hid hof
     clear hof
     go_wp2_with fail
     obtain ⟨cc, hdd, back⟩ := HX9.out.dk
     refine (duo_off hdd).mono ?_
     rintro en w7 ⟨rfl, rfl⟩
     rw [HOF.out]
     clear hdd back
     go_wp2_with fail
     refine (awake15_any _).mono ?_
     rintro en w9 ⟨rfl, hO9⟩
     have HO := Lib.hid (HX9.out.only.trans' hO9)
     clear hO9
     go_wp2
     go_ret
     exact ⟨rfl, HO.out⟩
    ·rw [Bool.not_eq_true] at hof
     rw [hof] at m4
     clear hof
     go_wp2_with fail
     refine (yy_same HX9.out HB1.out).mono ?_
     rintro en w7 ⟨rfl, hO⟩
     have HT := Lib.hid (HX9.out.keep0 hO)
     clear hO
     go_wp2
     go_roundg (gk - 1)
     case measure => omega
     case rel => exact ⟨j + 1, z1, kk + 4, by omega, by go_num, HT.out.ldrop, HB1.out⟩
   ·have n1 := hk
    clear hk
    by_cases hk : ak = 5
    ·have hb1 : (ak == 1) = false := by rw [hk]; rfl
     have hb5 : (ak == 5) = true := by rw [hk]; rfl
     have hb2 : (ak == 2) = false := by rw [hk]; rfl
     have hb3 : (ak == 3) = false := by rw [hk]; rfl
     have hb4 : (ak == 4) = false := by rw [hk]; rfl
     clear hk
     have HFW := Lib.hid hwf
     go_wp2_with fail
     refine (data_any ik ib ic iv af _ HFW.out).mono ?_
     rintro en w5 ⟨A5, n5, c5, rfl, hn5, hf, hO⟩
     have HR := Lib.hid (HR1.out.addFc hO hf)
     have HN1 : Hid (n5 ≤ 100000) := Lib.hid (by omega)
     clear hf hO hn5 HR1 y0 y1 y2 y3 y4 y5 y6 y7
     obtain ⟨y0, y1, y2, y3, y4, y5, y6, y7⟩ := own8 (HR.out.box (x := (f12, [.int .i64 ak, .int .i64 ik, .int .i64 ib, .int .i64 ic, .int .i64 iv, .int .i64 af, .int .i64 aa, .bool sp])) List.mem_cons_self)
     obtain ⟨m5, hm5⟩ : ∃ m : Nat, af % 130 = (m : Int) := ⟨(af % 130).toNat, by omega⟩
     have hm5b : m5 ≤ 130 := by omega
     have HM5 := Lib.hid hm5
     clear hm5
     have hmk := fun w => make_bys m5 (by omega) w
     obtain ⟨zs, hzs⟩ : ∃ zs, (bvs (List.replicate m5 0)).toArray = zs := ⟨_, rfl⟩
     rw [hzs] at hmk
     have hzl : zs.toList = bvs (List.replicate m5 0) := by rw [← hzs]
     have HZL := Lib.hid hzl
     clear hzs hzl HN1
     go_wp2_with fail
     refine (round_any af 130 _ HFW.out (by decide) (by decide)).mono ?_
     rintro en w6 ⟨rfl, rfl⟩
     rw [HM5.out]
     have hfz : Fc (w5.alloc (.cells zs 5)) (fun q => q < w5.heap.size) (fun W => Bys W (some ⟨w5.heap.size, 0, none⟩) m5 m5 (List.replicate m5 0)) := Row1.fc (Row1.of_Own (by have := Own.new w5 zs 5; rw [HZL.out] at this; exact this) (by simp) (Nat.le_refl _) (by unfold maxLen; omega)) (fun _ a ha => by injection ha with ha; subst ha; exact Nat.not_lt.2 (Nat.le_refl _))
     have HR2 := Lib.hid (HR.out.addFc ((Only.refl _ _).alloc (.cells zs 5)) hfz)
     have HN1 : Hid (m5 ≤ 100000) := Lib.hid (by omega)
     clear hfz HR
     go_upto_region 20 with (fail)
     generalize hvz : w5.alloc (.cells zs 5) = w6 at *
     generalize w5.heap.size = g5 at *
     clear hvz hmk y0 y1 y2 y3 y4 y5 y6 y7
     have HR := HR2
     clear HR2
     obtain ⟨z1, a1, e1, hza⟩ : ∃ z1 a1 e1, z.add (k.at_ kk).cf (⟨ik, ib, ic, iv⟩ : It) (List.replicate m5 0) sp = (z1, a1, e1) := ⟨_, _, _, rfl⟩
     have hb1 : By (k.at_ (kk + 4)) (j + 1) z1 := HB.out.next (by have := add_b HB.out.ok HB.out.s HB.out.b (⟨ik, ib, ic, iv⟩ : It) (List.replicate m5 0) sp; rw [hza] at this; exact this.mono (by omega) (by omega)) (by have := HB.out.K; dsimp only at this ⊢; omega) (by omega)
     have HB1 := Lib.hid hb1
     have HZA := Lib.hid hza
     clear hb1 hza
     go_wp2_with fail
     have HQ20 := Lib.hid HR.out.drew
     clear HR
     refine wp_region_held_drew (S := (fun w' => Kn.Own w' k.Z k.box ∧ Kn.Own w' f12 [.int .i64 ak, .int .i64 ik, .int .i64 ib, .int .i64 ic, .int .i64 iv, .int .i64 af, .int .i64 aa, .bool sp])) (by kernel_rfl) ⟨HQ20.out.zbox, HQ20.out.box (x := (f12, [.int .i64 ak, .int .i64 ik, .int .i64 ib, .int .i64 ic, .int .i64 iv, .int .i64 af, .int .i64 aa, .bool sp])) List.mem_cons_self⟩ (fun hSw0 => ?_)
     generalize w6.drew = wz20 at *
     refine Kn.takeS 0 ⟨some 100, _, _, _, _, _⟩ ?_
     refine Kn.takeS 1 ⟨some 101, _, _, _, _, _⟩ ?_
     refine Kn.takeS 2 ⟨some 102, _, _, _, _, _⟩ ?_
     refine Kn.takeS 3 ⟨some 103, _, _, _, _, _⟩ (v := (.pointer (some ⟨k.W, 0, none⟩))) (hy := fun w hSw => by
      have q0 := hSw.1.cellv 8
      go_simp) ?_
     refine Kn.takeS 4 ⟨some 104, _, _, _, _, _⟩ ?_
     refine Kn.takeS 5 ⟨some 105, _, _, _, _, _⟩ (v := (.agg #[.int .i64 ik, .int .i64 ib, .int .i64 ic, .int .i64 iv])) (hy := fun w hSw => by
      have q1 := hSw.2.cellv 1
      have q2 := hSw.2.cellv 2
      have q3 := hSw.2.cellv 3
      have q4 := hSw.2.cellv 4
      go_simp) ?_
     refine Kn.takeS 6 ⟨some 106, _, _, _, _, _⟩ ?_
     refine Kn.takeS 7 ⟨some 107, _, _, _, _, _⟩ ?_
     refine Kn.takeS 8 ⟨some 108, _, _, _, _, _⟩ (v := (.bool sp)) (hy := fun w hSw => by
      have q0 := hSw.2.cellv 7
      go_simp) ?_
     refine Kn.takeR 9 ⟨some 109, _, _, _, _, _⟩ fun K hK => ?_
     go_simp
     refine (yy_add (x := (⟨ik, ib, ic, iv⟩ : It)) HQ20.out HB.out sp List.mem_cons_self HN1.out).mono ?_
     rw [HZA.out]
     rintro en wa ⟨rfl, hd⟩
     have HQ20a := Lib.hid hd
     clear hd
     clear HQ20
     refine hK.out _ _ ⟨HQ20a.out.zbox, HQ20a.out.box (x := (f12, [.int .i64 ak, .int .i64 ik, .int .i64 ib, .int .i64 ic, .int .i64 iv, .int .i64 af, .int .i64 aa, .bool sp])) List.mem_cons_self⟩ (fun hSn => ?_)
     clear hK K hSw0
     have hSw0 := hSn
     clear hSn
     refine Kn.takeS 10 ⟨some 99, _, _, _, _, _⟩ ?_
     refine Kn.takeS 11 ⟨some 110, _, _, _, _, _⟩ ?_
     refine Kn.takeS 12 ⟨some 111, _, _, _, _, _⟩ ?_
     refine Kn.takeS 13 ⟨some 14, _, _, _, _, _⟩ ?_
     refine Kn.takeS 14 ⟨some 15, _, _, _, _, _⟩ ?_
     refine wpAnyH_done (by kernel_rfl) ?_ _
     clear hSw0
     go_wp2_with fail
     have HQ21 := Lib.hid HQ20a.out.drew
     clear HQ20a
     refine wp_region_held_drew (S := (fun w' => Kn.Own w' k.Z k.box ∧ Kn.Own w' f12 [.int .i64 ak, .int .i64 ik, .int .i64 ib, .int .i64 ic, .int .i64 iv, .int .i64 af, .int .i64 aa, .bool sp])) (by kernel_rfl) ⟨HQ21.out.zbox, HQ21.out.box (x := (f12, [.int .i64 ak, .int .i64 ik, .int .i64 ib, .int .i64 ic, .int .i64 iv, .int .i64 af, .int .i64 aa, .bool sp])) List.mem_cons_self⟩ (fun hSw0 => ?_)
     generalize wa.drew = wz21 at *
     refine Kn.takeS 0 ⟨some 113, _, _, _, _, _⟩ ?_
     refine Kn.takeS 1 ⟨some 114, _, _, _, _, _⟩ ?_
     refine Kn.takeS 2 ⟨some 115, _, _, _, _, _⟩ ?_
     refine Kn.takeS 3 ⟨some 116, _, _, _, _, _⟩ (v := (.pointer (some ⟨k.X, 0, none⟩))) (hy := fun w hSw => by
      have q0 := hSw.1.cellv 9
      go_simp) ?_
     refine Kn.takeS 4 ⟨some 117, _, _, _, _, _⟩ ?_
     refine Kn.takeS 5 ⟨some 118, _, _, _, _, _⟩ (v := (.agg #[.int .i64 ik, .int .i64 ib, .int .i64 ic, .int .i64 iv])) (hy := fun w hSw => by
      have q1 := hSw.2.cellv 1
      have q2 := hSw.2.cellv 2
      have q3 := hSw.2.cellv 3
      have q4 := hSw.2.cellv 4
      go_simp) ?_
     refine Kn.takeS 6 ⟨some 119, _, _, _, _, _⟩ ?_
     refine Kn.takeS 7 ⟨some 120, _, _, _, _, _⟩ ?_
     refine Kn.takeS 8 ⟨some 121, _, _, _, _, _⟩ (v := (.bool sp)) (hy := fun w hSw => by
      have q0 := hSw.2.cellv 7
      go_simp) ?_
     refine Kn.takeR 9 ⟨some 122, _, _, _, _, _⟩ fun K hK => ?_
     go_simp
     refine (yy_xadd (x := (⟨ik, ib, ic, iv⟩ : It)) HQ21.out HB.out sp List.mem_cons_self HN1.out).mono ?_
     rw [HZA.out]
     rintro en wb ⟨rfl, hd⟩
     have HQ21b := Lib.hid hd
     clear hd
     clear HQ21
     refine hK.out _ _ ⟨HQ21b.out.zbox, HQ21b.out.box (x := (f12, [.int .i64 ak, .int .i64 ik, .int .i64 ib, .int .i64 ic, .int .i64 iv, .int .i64 af, .int .i64 aa, .bool sp])) List.mem_cons_self⟩ (fun hSn => ?_)
     clear hK K hSw0
     have hSw0 := hSn
     clear hSn
     refine Kn.takeS 10 ⟨some 112, _, _, _, _, _⟩ ?_
     refine Kn.takeS 11 ⟨some 123, _, _, _, _, _⟩ ?_
     refine Kn.takeS 12 ⟨some 124, _, _, _, _, _⟩ ?_
     refine Kn.takeS 13 ⟨some 16, _, _, _, _, _⟩ ?_
     refine Kn.takeS 14 ⟨some 17, _, _, _, _, _⟩ ?_
     refine wpAnyH_done (by kernel_rfl) ?_ _
     clear hSw0
     have HX9 : Hid (YY w wb (k.at_ (kk + 4)) z1 z1 ((f12, [.int .i64 ak, .int .i64 ik, .int .i64 ib, .int .i64 ic, .int .i64 iv, .int .i64 af, .int .i64 aa, .bool sp]) :: [(f5, [.int .i64 ps.s, .int .i64 ps.o, .int .i64 ps.l, .int .i64 ps.p, .int .i64 ps.m]), (f4, [.int .i64 l0, .int .i64 l1, .int .i64 l2])]) [] [(fun W => Yas W (some ⟨ga, oa, none⟩) n c2 acts), (fun W => Ins W A1 m1 c1 busy)]) := Lib.hid HQ21b.out.fdrop.fdrop
     clear HQ21b
     obtain ⟨zd, zm, m4⟩ := HX9.out.cellsK
     by_cases hof : z1.d.off = true
     ·rw [hof] at m4
      have HOF := Lib.hid hof
      clear hof
      go_wp2_with fail
      obtain ⟨cc, hdd, back⟩ := HX9.out.dk
      refine (duo_off hdd).mono ?_
      rintro en w7 ⟨rfl, rfl⟩
      rw [HOF.out]
      clear hdd back
      go_wp2_with fail
      refine (awake15_any _).mono ?_
      rintro en w9 ⟨rfl, hO9⟩
      have HO := Lib.hid (HX9.out.only.trans' hO9)
      clear hO9
      go_wp2
      go_ret
      exact ⟨rfl, HO.out⟩
     ·rw [Bool.not_eq_true] at hof
      rw [hof] at m4
      clear hof
      go_wp2_with fail
      refine (yy_same HX9.out HB1.out).mono ?_
      rintro en w7 ⟨rfl, hO⟩
      have HT := Lib.hid (HX9.out.keep0 hO)
      clear hO
      go_wp2
      go_roundg (gk - 1)
      case measure => omega
      case rel => exact ⟨j + 1, z1, kk + 4, by omega, by go_num, HT.out.ldrop, HB1.out⟩
    ·have n5 := hk
     clear hk
     by_cases hk : ak = 2
     ·have hb1 : (ak == 1) = false := by rw [hk]; rfl
      have hb5 : (ak == 5) = false := by rw [hk]; rfl
      have hb2 : (ak == 2) = true := by rw [hk]; rfl
      have hb3 : (ak == 3) = false := by rw [hk]; rfl
      have hb4 : (ak == 4) = false := by rw [hk]; rfl
      clear hk
      have HR := HR1
      clear HR1
      obtain ⟨z1, e1, hza⟩ : ∃ z1 e1, z.emit (k.at_ kk).cf = (z1, e1) := ⟨_, _, rfl⟩
      have hb1 : By (k.at_ (kk + 2)) (j + 1) z1 := HB.out.next (by have := (emit_b HB.out.ok HB.out.b).1; rw [hza] at this; exact this.mono (by omega) (by omega)) (by have := HB.out.K; dsimp only at this ⊢; omega) (by omega)
      have HB1 := Lib.hid hb1
      have HZA := Lib.hid hza
      clear hb1 hza
      go_wp2_with fail
      have HQ25 := Lib.hid HR.out.drew
      clear HR
      refine wp_region_held_drew (S := (fun w' => Kn.Own w' k.Z k.box ∧ Kn.Own w' f12 [.int .i64 ak, .int .i64 ik, .int .i64 ib, .int .i64 ic, .int .i64 iv, .int .i64 af, .int .i64 aa, .bool sp])) (by kernel_rfl) ⟨HQ25.out.zbox, HQ25.out.box (x := (f12, [.int .i64 ak, .int .i64 ik, .int .i64 ib, .int .i64 ic, .int .i64 iv, .int .i64 af, .int .i64 aa, .bool sp])) List.mem_cons_self⟩ (fun hSw0 => ?_)
      generalize wr1.drew = wz25 at *
      refine Kn.takeS 0 ⟨some 135, _, _, _, _, _⟩ ?_
      refine Kn.takeS 1 ⟨some 136, _, _, _, _, _⟩ ?_
      refine Kn.takeS 2 ⟨some 137, _, _, _, _, _⟩ ?_
      refine Kn.takeS 3 ⟨some 138, _, _, _, _, _⟩ (v := (.pointer (some ⟨k.W, 0, none⟩))) (hy := fun w hSw => by
       have q0 := hSw.1.cellv 8
       go_simp) ?_
      refine Kn.takeS 5 ⟨some 140, _, _, _, _, _⟩ ?_
      refine Kn.takeS 6 ⟨some 141, _, _, _, _, _⟩ ?_
      refine Kn.takeS 7 ⟨some 142, _, _, _, _, _⟩ ?_
      refine Kn.takeS 8 ⟨some 143, _, _, _, _, _⟩ (v := (.pointer (some ⟨k.X, 0, none⟩))) (hy := fun w hSw => by
       have q0 := hSw.1.cellv 9
       go_simp) ?_
      refine Kn.takeR 4 ⟨some 139, _, _, _, _, _⟩ fun K hK => ?_
      go_simp
      refine (yy_emit HQ25.out HB.out).mono ?_
      rw [HZA.out]
      rintro en wa ⟨rfl, hd⟩
      have HQ25a := Lib.hid hd
      clear hd
      clear HQ25
      refine hK.out _ _ ⟨HQ25a.out.zbox, HQ25a.out.box (x := (f12, [.int .i64 ak, .int .i64 ik, .int .i64 ib, .int .i64 ic, .int .i64 iv, .int .i64 af, .int .i64 aa, .bool sp])) List.mem_cons_self⟩ (fun hSn => ?_)
      clear hK K hSw0
      have hSw0 := hSn
      clear hSn
      refine Kn.takeR 9 ⟨some 144, _, _, _, _, _⟩ fun K hK => ?_
      go_simp
      refine (yy_xemit HQ25a.out HB.out).mono ?_
      rw [HZA.out]
      rintro en wb ⟨rfl, hd⟩
      have HQ25ab := Lib.hid hd
      clear hd
      clear HQ25a
      refine hK.out _ _ ⟨HQ25ab.out.zbox, HQ25ab.out.box (x := (f12, [.int .i64 ak, .int .i64 ik, .int .i64 ib, .int .i64 ic, .int .i64 iv, .int .i64 af, .int .i64 aa, .bool sp])) List.mem_cons_self⟩ (fun hSn => ?_)
      clear hK K hSw0
      have hSw0 := hSn
      clear hSn
      refine Kn.takeS 10 ⟨some 145, _, _, _, _, _⟩ ?_
      refine wpAnyH_done (by kernel_rfl) ?_ _
      clear hSw0
      have HX9 : Hid (YY w wb (k.at_ (kk + 2)) z1 z1 ((f12, [.int .i64 ak, .int .i64 ik, .int .i64 ib, .int .i64 ic, .int .i64 iv, .int .i64 af, .int .i64 aa, .bool sp]) :: [(f5, [.int .i64 ps.s, .int .i64 ps.o, .int .i64 ps.l, .int .i64 ps.p, .int .i64 ps.m]), (f4, [.int .i64 l0, .int .i64 l1, .int .i64 l2])]) [] [(fun W => Yas W (some ⟨ga, oa, none⟩) n c2 acts), (fun W => Ins W A1 m1 c1 busy)]) := Lib.hid HQ25ab.out
      clear HQ25ab
      obtain ⟨zd, zm, m4⟩ := HX9.out.cellsK
      by_cases hof : z1.d.off = true
      ·rw [hof] at m4
       have HOF := Lib.hid hof
       clear hof
       go_wp2_with fail
       obtain ⟨cc, hdd, back⟩ := HX9.out.dk
       refine (duo_off hdd).mono ?_
       rintro en w7 ⟨rfl, rfl⟩
       rw [HOF.out]
       clear hdd back
       go_wp2_with fail
       refine (awake15_any _).mono ?_
       rintro en w9 ⟨rfl, hO9⟩
       have HO := Lib.hid (HX9.out.only.trans' hO9)
       clear hO9
       go_wp2
       go_ret
       exact ⟨rfl, HO.out⟩
      ·rw [Bool.not_eq_true] at hof
       rw [hof] at m4
       clear hof
       go_wp2_with fail
       refine (yy_same HX9.out HB1.out).mono ?_
       rintro en w7 ⟨rfl, hO⟩
       have HT := Lib.hid (HX9.out.keep0 hO)
       clear hO
       go_wp2
       go_roundg (gk - 1)
       case measure => omega
       case rel => exact ⟨j + 1, z1, kk + 2, by omega, by go_num, HT.out.ldrop, HB1.out⟩
     ·have n2 := hk
      clear hk
      by_cases hk : ak = 3
      ·have hb1 : (ak == 1) = false := by rw [hk]; rfl
       have hb5 : (ak == 5) = false := by rw [hk]; rfl
       have hb2 : (ak == 2) = false := by rw [hk]; rfl
       have hb3 : (ak == 3) = true := by rw [hk]; rfl
       have hb4 : (ak == 4) = false := by rw [hk]; rfl
       clear hk
       have HR := HR1
       clear HR1
       obtain ⟨bb, e1, hza⟩ : ∃ bb e1, z.rd (k.at_ kk).cf aa = (bb, e1) := ⟨_, _, rfl⟩
       have HAW := Lib.hid hwa
       have HZA := Lib.hid hza
       clear hza
       go_wp2_with fail
       have HQ28 := Lib.hid HR.out.drew
       clear HR
       refine wp_region_held_drew (S := (fun w' => Kn.Own w' k.Z k.box ∧ Kn.Own w' f12 [.int .i64 ak, .int .i64 ik, .int .i64 ib, .int .i64 ic, .int .i64 iv, .int .i64 af, .int .i64 aa, .bool sp])) (by kernel_rfl) ⟨HQ28.out.zbox, HQ28.out.box (x := (f12, [.int .i64 ak, .int .i64 ik, .int .i64 ib, .int .i64 ic, .int .i64 iv, .int .i64 af, .int .i64 aa, .bool sp])) List.mem_cons_self⟩ (fun hSw0 => ?_)
       generalize wr1.drew = wz28 at *
       refine Kn.takeS 0 ⟨some 149, _, _, _, _, _⟩ ?_
       refine Kn.takeS 1 ⟨some 150, _, _, _, _, _⟩ ?_
       refine Kn.takeS 2 ⟨some 151, _, _, _, _, _⟩ ?_
       refine Kn.takeS 3 ⟨some 152, _, _, _, _, _⟩ (v := (.pointer (some ⟨k.W, 0, none⟩))) (hy := fun w hSw => by
        have q0 := hSw.1.cellv 8
        go_simp) ?_
       refine Kn.takeS 4 ⟨some 153, _, _, _, _, _⟩ ?_
       refine Kn.takeS 5 ⟨some 154, _, _, _, _, _⟩ (v := (.int .i64 aa)) (hy := fun w hSw => by
        have q0 := hSw.2.cellv 6
        go_simp) ?_
       refine Kn.takeR 6 ⟨some 155, _, _, _, _, _⟩ fun K hK => ?_
       go_simp
       refine (yy_read HQ28.out HB.out aa).mono ?_
       rw [HZA.out]
       rintro en wa ⟨A7, n7, c7, rfl, hf, hO⟩
       have HQ28a := Lib.hid (HQ28.out.addFc hO hf)
       clear hO hf
       clear HQ28
       refine hK.out _ _ ⟨HQ28a.out.zbox, HQ28a.out.box (x := (f12, [.int .i64 ak, .int .i64 ik, .int .i64 ib, .int .i64 ic, .int .i64 iv, .int .i64 af, .int .i64 aa, .bool sp])) List.mem_cons_self⟩ (fun hSn => ?_)
       clear hK K hSw0
       have hSw0 := hSn
       clear hSn
       refine Kn.takeS 7 ⟨some 148, _, _, _, _, _⟩ ?_
       refine Kn.takeS 8 ⟨some 156, _, _, _, _, _⟩ ?_
       refine Kn.takeS 9 ⟨some 157, _, _, _, _, _⟩ ?_
       refine Kn.takeS 10 ⟨some 18, _, _, _, _, _⟩ ?_
       refine Kn.takeS 11 ⟨some 19, _, _, _, _, _⟩ ?_
       refine wpAnyH_done (by kernel_rfl) ?_ _
       clear hSw0
       go_wp2_with fail
       have HQ29 := Lib.hid HQ28a.out.drew
       clear HQ28a
       refine wp_region_held_drew (S := (fun w' => Kn.Own w' k.Z k.box ∧ Kn.Own w' f12 [.int .i64 ak, .int .i64 ik, .int .i64 ib, .int .i64 ic, .int .i64 iv, .int .i64 af, .int .i64 aa, .bool sp])) (by kernel_rfl) ⟨HQ29.out.zbox, HQ29.out.box (x := (f12, [.int .i64 ak, .int .i64 ik, .int .i64 ib, .int .i64 ic, .int .i64 iv, .int .i64 af, .int .i64 aa, .bool sp])) List.mem_cons_self⟩ (fun hSw0 => ?_)
       generalize wa.drew = wz29 at *
       refine Kn.takeS 0 ⟨some 159, _, _, _, _, _⟩ ?_
       refine Kn.takeS 1 ⟨some 160, _, _, _, _, _⟩ ?_
       refine Kn.takeS 2 ⟨some 161, _, _, _, _, _⟩ ?_
       refine Kn.takeS 3 ⟨some 162, _, _, _, _, _⟩ (v := (.pointer (some ⟨k.X, 0, none⟩))) (hy := fun w hSw => by
        have q0 := hSw.1.cellv 9
        go_simp) ?_
       refine Kn.takeS 4 ⟨some 163, _, _, _, _, _⟩ ?_
       refine Kn.takeS 5 ⟨some 164, _, _, _, _, _⟩ (v := (.int .i64 aa)) (hy := fun w hSw => by
        have q0 := hSw.2.cellv 6
        go_simp) ?_
       refine Kn.takeR 6 ⟨some 165, _, _, _, _, _⟩ fun K hK => ?_
       go_simp
       refine (yy_xread HQ29.out HB.out aa HAW.out).mono ?_
       rw [HZA.out]
       rintro en wb ⟨A8, n8, c8, rfl, hf, hO⟩
       have HQ29b := Lib.hid (HQ29.out.addFc hO hf)
       clear hO hf
       clear HQ29
       refine hK.out _ _ ⟨HQ29b.out.zbox, HQ29b.out.box (x := (f12, [.int .i64 ak, .int .i64 ik, .int .i64 ib, .int .i64 ic, .int .i64 iv, .int .i64 af, .int .i64 aa, .bool sp])) List.mem_cons_self⟩ (fun hSn => ?_)
       clear hK K hSw0
       have hSw0 := hSn
       clear hSn
       refine Kn.takeS 7 ⟨some 158, _, _, _, _, _⟩ ?_
       refine Kn.takeS 8 ⟨some 166, _, _, _, _, _⟩ ?_
       refine Kn.takeS 9 ⟨some 167, _, _, _, _, _⟩ ?_
       refine Kn.takeS 10 ⟨some 20, _, _, _, _, _⟩ ?_
       refine Kn.takeS 11 ⟨some 21, _, _, _, _, _⟩ ?_
       refine wpAnyH_done (by kernel_rfl) ?_ _
       clear hSw0
       go_wp2_with fail
       refine (alike_bytes_any A7 n7 c7 bb A8 n8 c8 bb _ (HQ29b.out.fact (f := (fun W => Bys W A7 n7 c7 bb)) (List.mem_cons_of_mem _ List.mem_cons_self)) (HQ29b.out.fact (f := (fun W => Bys W A8 n8 c8 bb)) List.mem_cons_self)).mono ?_
       rintro en w6 ⟨rfl, k6, rfl⟩
       rw [decide_eq_true rfl]
       have HX := Lib.hid (HQ29b.out.keep0 ((Only.refl _ _).drewN k6))
       clear HQ29b
       obtain ⟨z1, hz1⟩ : ∃ z1, z = z1 := ⟨_, rfl⟩
       have hb1 : By (k.at_ (kk + 0)) (j + 1) z1 := HB.out.next ((show Bw k.cf k.q.n (1073741824 + 2 * ((j : Nat) : Int)) (16 * j) z1 from by rw [← hz1]; exact HB.out.b).mono (by omega) (by omega)) (by have := HB.out.K; dsimp only at this ⊢; omega) (by omega)
       rw [hz1] at HX
       have HB1 := Lib.hid hb1
       clear hb1 hz1
       generalize hvz : World.drewN _ k6 = w8 at *
       clear hvz
       have HX9 : Hid (YY w w8 (k.at_ (kk + 0)) z1 z1 ((f12, [.int .i64 ak, .int .i64 ik, .int .i64 ib, .int .i64 ic, .int .i64 iv, .int .i64 af, .int .i64 aa, .bool sp]) :: [(f5, [.int .i64 ps.s, .int .i64 ps.o, .int .i64 ps.l, .int .i64 ps.p, .int .i64 ps.m]), (f4, [.int .i64 l0, .int .i64 l1, .int .i64 l2])]) [] [(fun W => Yas W (some ⟨ga, oa, none⟩) n c2 acts), (fun W => Ins W A1 m1 c1 busy)]) := Lib.hid HX.out.fdrop.fdrop
       clear HX
       obtain ⟨zd, zm, m4⟩ := HX9.out.cellsK
       by_cases hof : z1.d.off = true
       ·rw [hof] at m4
        have HOF := Lib.hid hof
        clear hof
        go_wp2_with fail
        obtain ⟨cc, hdd, back⟩ := HX9.out.dk
        refine (duo_off hdd).mono ?_
        rintro en w7 ⟨rfl, rfl⟩
        rw [HOF.out]
        clear hdd back
        go_wp2_with fail
        refine (awake15_any _).mono ?_
        rintro en w9 ⟨rfl, hO9⟩
        have HO := Lib.hid (HX9.out.only.trans' hO9)
        clear hO9
        go_wp2
        go_ret
        exact ⟨rfl, HO.out⟩
       ·rw [Bool.not_eq_true] at hof
        rw [hof] at m4
        clear hof
        go_wp2_with fail
        refine (yy_same HX9.out HB1.out).mono ?_
        rintro en w7 ⟨rfl, hO⟩
        have HT := Lib.hid (HX9.out.keep0 hO)
        clear hO
        go_wp2
        go_roundg (gk - 1)
        case measure => omega
        case rel => exact ⟨j + 1, z1, kk + 0, by omega, by go_num, HT.out.ldrop, HB1.out⟩
      ·have n3 := hk
       clear hk
       by_cases hk : ak = 4
       ·have hb1 : (ak == 1) = false := by rw [hk]; rfl
        have hb5 : (ak == 5) = false := by rw [hk]; rfl
        have hb2 : (ak == 2) = false := by rw [hk]; rfl
        have hb3 : (ak == 3) = false := by rw [hk]; rfl
        have hb4 : (ak == 4) = true := by rw [hk]; rfl
        clear hk
        have HR := HR1
        clear HR1
        have hab : -9223372036854775808 ≤ aa ∧ aa ≤ 9223372036854775807 := by simpa [Lit.wf, IntKind.min, IntKind.max, IntKind.signed, IntKind.bits] using hwa
        have HAB : Hid (aa ≤ 9223372036854775807) := Lib.hid hab.2
        clear hab
        go_wp2_with fail
        have HQ33 := Lib.hid HR.out.drew
        clear HR
        refine wp_region_held_drew (S := (fun w' => Kn.Own w' k.Z k.box ∧ Kn.Own w' f12 [.int .i64 ak, .int .i64 ik, .int .i64 ib, .int .i64 ic, .int .i64 iv, .int .i64 af, .int .i64 aa, .bool sp])) (by kernel_rfl) ⟨HQ33.out.zbox, HQ33.out.box (x := (f12, [.int .i64 ak, .int .i64 ik, .int .i64 ib, .int .i64 ic, .int .i64 iv, .int .i64 af, .int .i64 aa, .bool sp])) List.mem_cons_self⟩ (fun hSw0 => ?_)
        generalize wr1.drew = wz33 at *
        refine Kn.takeS 0 ⟨some 179, _, _, _, _, _⟩ ?_
        refine Kn.takeS 1 ⟨some 180, _, _, _, _, _⟩ ?_
        refine Kn.takeS 2 ⟨some 181, _, _, _, _, _⟩ ?_
        refine Kn.takeS 3 ⟨some 182, _, _, _, _, _⟩ (v := (.pointer (some ⟨k.p.D, 0, none⟩))) (hy := fun w hSw => by
         have q0 := hSw.1.cellv 0
         go_simp) ?_
        refine Kn.takeS 4 ⟨some 183, _, _, _, _, _⟩ ?_
        refine Kn.takeS 5 ⟨some 184, _, _, _, _, _⟩ (v := (.int .i64 aa)) (hy := fun w hSw => by
         have q0 := hSw.2.cellv 6
         go_simp) ?_
        refine Kn.takeR 6 ⟨some 185, _, _, _, _, _⟩ fun K hK => ?_
        go_simp
        refine (yy_fuse HQ33.out aa HAB.out).mono ?_
        rintro en wa ⟨rfl, hd⟩
        have HQ33a := Lib.hid hd
        clear hd
        clear HQ33
        refine hK.out _ _ ⟨HQ33a.out.zbox, HQ33a.out.box (x := (f12, [.int .i64 ak, .int .i64 ik, .int .i64 ib, .int .i64 ic, .int .i64 iv, .int .i64 af, .int .i64 aa, .bool sp])) List.mem_cons_self⟩ (fun hSn => ?_)
        clear hK K hSw0
        have hSw0 := hSn
        clear hSn
        refine wpAnyH_done (by kernel_rfl) ?_ _
        clear hSw0
        go_wp2_with fail
        have HQ34 := Lib.hid HQ33a.out.drew
        clear HQ33a
        refine wp_region_held_drew (S := (fun w' => Kn.Own w' k.Z k.box ∧ Kn.Own w' f12 [.int .i64 ak, .int .i64 ik, .int .i64 ib, .int .i64 ic, .int .i64 iv, .int .i64 af, .int .i64 aa, .bool sp])) (by kernel_rfl) ⟨HQ34.out.zbox, HQ34.out.box (x := (f12, [.int .i64 ak, .int .i64 ik, .int .i64 ib, .int .i64 ic, .int .i64 iv, .int .i64 af, .int .i64 aa, .bool sp])) List.mem_cons_self⟩ (fun hSw0 => ?_)
        generalize wa.drew = wz34 at *
        refine Kn.takeS 0 ⟨some 186, _, _, _, _, _⟩ ?_
        refine Kn.takeS 1 ⟨some 187, _, _, _, _, _⟩ ?_
        refine Kn.takeS 2 ⟨some 188, _, _, _, _, _⟩ ?_
        refine Kn.takeS 3 ⟨some 189, _, _, _, _, _⟩ (v := (.pointer (some ⟨k.r.M, 0, none⟩))) (hy := fun w hSw => by
         have q0 := hSw.1.cellv 1
         go_simp) ?_
        refine Kn.takeS 4 ⟨some 190, _, _, _, _, _⟩ ?_
        refine Kn.takeS 5 ⟨some 191, _, _, _, _, _⟩ (v := (.int .i64 aa)) (hy := fun w hSw => by
         have q0 := hSw.2.cellv 6
         go_simp) ?_
        refine Kn.takeR 6 ⟨some 192, _, _, _, _, _⟩ fun K hK => ?_
        go_simp
        refine (yy_xfuse HQ34.out aa HAB.out).mono ?_
        rintro en wb ⟨rfl, hd⟩
        have HQ34b := Lib.hid hd
        clear hd
        clear HQ34
        refine hK.out _ _ ⟨HQ34b.out.zbox, HQ34b.out.box (x := (f12, [.int .i64 ak, .int .i64 ik, .int .i64 ib, .int .i64 ic, .int .i64 iv, .int .i64 af, .int .i64 aa, .bool sp])) List.mem_cons_self⟩ (fun hSn => ?_)
        clear hK K hSw0
        have hSw0 := hSn
        clear hSn
        refine wpAnyH_done (by kernel_rfl) ?_ _
        clear hSw0
        obtain ⟨z1, hz1⟩ : ∃ z1, ({ z with d := z.d.fused aa } : Wr) = z1 := ⟨_, rfl⟩
        have hb1 : By (k.at_ (kk + 0)) (j + 1) z1 := HB.out.next ((show Bw k.cf k.q.n (1073741824 + 2 * ((j : Nat) : Int)) (16 * j) z1 from by rw [← hz1]; exact HB.out.b.fused).mono (by omega) (by omega)) (by have := HB.out.K; dsimp only at this ⊢; omega) (by omega)
        have hx := HQ34b.out
        rw [hz1] at hx
        have HX : Hid (YY w wb (k.at_ kk) z1 z1 ((f12, [.int .i64 ak, .int .i64 ik, .int .i64 ib, .int .i64 ic, .int .i64 iv, .int .i64 af, .int .i64 aa, .bool sp]) :: [(f5, [.int .i64 ps.s, .int .i64 ps.o, .int .i64 ps.l, .int .i64 ps.p, .int .i64 ps.m]), (f4, [.int .i64 l0, .int .i64 l1, .int .i64 l2])]) [] [(fun W => Yas W (some ⟨ga, oa, none⟩) n c2 acts), (fun W => Ins W A1 m1 c1 busy)]) := Lib.hid hx
        have HB1 := Lib.hid hb1
        clear hb1 hz1 hx HQ34b
        have HX9 : Hid (YY w wb (k.at_ (kk + 0)) z1 z1 ((f12, [.int .i64 ak, .int .i64 ik, .int .i64 ib, .int .i64 ic, .int .i64 iv, .int .i64 af, .int .i64 aa, .bool sp]) :: [(f5, [.int .i64 ps.s, .int .i64 ps.o, .int .i64 ps.l, .int .i64 ps.p, .int .i64 ps.m]), (f4, [.int .i64 l0, .int .i64 l1, .int .i64 l2])]) [] [(fun W => Yas W (some ⟨ga, oa, none⟩) n c2 acts), (fun W => Ins W A1 m1 c1 busy)]) := Lib.hid HX.out
        clear HX
        obtain ⟨zd, zm, m4⟩ := HX9.out.cellsK
        by_cases hof : z1.d.off = true
        ·rw [hof] at m4
         have HOF := Lib.hid hof
         clear hof
         go_wp2_with fail
         obtain ⟨cc, hdd, back⟩ := HX9.out.dk
         refine (duo_off hdd).mono ?_
         rintro en w7 ⟨rfl, rfl⟩
         rw [HOF.out]
         clear hdd back
         go_wp2_with fail
         refine (awake15_any _).mono ?_
         rintro en w9 ⟨rfl, hO9⟩
         have HO := Lib.hid (HX9.out.only.trans' hO9)
         clear hO9
         go_wp2
         go_ret
         exact ⟨rfl, HO.out⟩
        ·rw [Bool.not_eq_true] at hof
         rw [hof] at m4
         clear hof
         go_wp2_with fail
         refine (yy_same HX9.out HB1.out).mono ?_
         rintro en w7 ⟨rfl, hO⟩
         have HT := Lib.hid (HX9.out.keep0 hO)
         clear hO
         go_wp2
         go_roundg (gk - 1)
         case measure => omega
         case rel => exact ⟨j + 1, z1, kk + 0, by omega, by go_num, HT.out.ldrop, HB1.out⟩
       ·have n4 := hk
        clear hk
        have hb1 : (ak == 1) = false := beq_eq_false_iff_ne.2 n1
        have hb5 : (ak == 5) = false := beq_eq_false_iff_ne.2 n5
        have hb2 : (ak == 2) = false := beq_eq_false_iff_ne.2 n2
        have hb3 : (ak == 3) = false := beq_eq_false_iff_ne.2 n3
        have hb4 : (ak == 4) = false := beq_eq_false_iff_ne.2 n4
        clear n1 n5 n2 n3 n4
        have HR := HR1
        clear HR1
        obtain ⟨z1, hz1⟩ : ∃ z1, z = z1 := ⟨_, rfl⟩
        have hb1 : By (k.at_ (kk + 0)) (j + 1) z1 := HB.out.next ((show Bw k.cf k.q.n (1073741824 + 2 * ((j : Nat) : Int)) (16 * j) z1 from by rw [← hz1]; exact HB.out.b).mono (by omega) (by omega)) (by have := HB.out.K; dsimp only at this ⊢; omega) (by omega)
        have hx := HR.out
        rw [hz1] at hx
        have HX := Lib.hid hx
        have HB1 := Lib.hid hb1
        clear hb1 hz1 hx HR
        have HX9 : Hid (YY w wr1 (k.at_ (kk + 0)) z1 z1 ((f12, [.int .i64 ak, .int .i64 ik, .int .i64 ib, .int .i64 ic, .int .i64 iv, .int .i64 af, .int .i64 aa, .bool sp]) :: [(f5, [.int .i64 ps.s, .int .i64 ps.o, .int .i64 ps.l, .int .i64 ps.p, .int .i64 ps.m]), (f4, [.int .i64 l0, .int .i64 l1, .int .i64 l2])]) [] [(fun W => Yas W (some ⟨ga, oa, none⟩) n c2 acts), (fun W => Ins W A1 m1 c1 busy)]) := Lib.hid HX.out
        clear HX
        obtain ⟨zd, zm, m4⟩ := HX9.out.cellsK
        by_cases hof : z1.d.off = true
        ·rw [hof] at m4
         have HOF := Lib.hid hof
         clear hof
         go_wp2_with fail
         obtain ⟨cc, hdd, back⟩ := HX9.out.dk
         refine (duo_off hdd).mono ?_
         rintro en w7 ⟨rfl, rfl⟩
         rw [HOF.out]
         clear hdd back
         go_wp2_with fail
         refine (awake15_any _).mono ?_
         rintro en w9 ⟨rfl, hO9⟩
         have HO := Lib.hid (HX9.out.only.trans' hO9)
         clear hO9
         go_wp2
         go_ret
         exact ⟨rfl, HO.out⟩
        ·rw [Bool.not_eq_true] at hof
         rw [hof] at m4
         clear hof
         go_wp2_with fail
         refine (yy_same HX9.out HB1.out).mono ?_
         rintro en w7 ⟨rfl, hO⟩
         have HT := Lib.hid (HX9.out.keep0 hO)
         clear hO
         go_wp2
         go_roundg (gk - 1)
         case measure => omega
         case rel => exact ⟨j + 1, z1, kk + 0, by omega, by go_num, HT.out.ldrop, HB1.out⟩
  ·obtain rfl : j = n := by omega
   go_wp2_with fail
   have HQ := Lib.hid HE.out.drew
   clear HE
   refine wp_region_held_drew (S := (fun w' => Kn.Own w' k.Z k.box)) (by kernel_rfl) HQ.out.zbox (fun hSw0 => ?_)
   generalize wr.drew = wz at *
   refine Kn.takeS 0 ⟨some 211, _, _, _, _, _⟩ ?_
   refine Kn.takeS 1 ⟨some 212, _, _, _, _, _⟩ ?_
   refine Kn.takeS 2 ⟨some 213, _, _, _, _, _⟩ ?_
   refine Kn.takeS 3 ⟨some 214, _, _, _, _, _⟩ (v := (.pointer (some ⟨k.p.D, 0, none⟩))) (hy := fun w hSw => by
    have q0 := hSw.cellv 0
    go_simp) ?_
   refine Kn.takeS 4 ⟨some 215, _, _, _, _, _⟩ ?_
   refine Kn.takeS 5 ⟨some 216, _, _, _, _, _⟩ ?_
   refine Kn.takeS 6 ⟨some 217, _, _, _, _, _⟩ ?_
   refine Kn.takeS 7 ⟨some 218, _, _, _, _, _⟩ (v := (.pointer (some ⟨k.r.M, 0, none⟩))) (hy := fun w hSw => by
    have q0 := hSw.cellv 1
    go_simp) ?_
   refine Kn.takeR 8 ⟨some 219, _, _, _, _, _⟩ fun K hK => ?_
   go_simp
   obtain ⟨cc, hdd, back⟩ := HQ.out.dk
   refine (duo_same w _ _ _ _ cc hdd (by have := HB.out.b.held; have := HB.out.le; omega)).mono ?_
   rintro en ws ⟨rfl, hO⟩
   have HQs := Lib.hid (HQ.out.keep0 hO)
   clear hO hdd back
   clear HQ
   refine hK.out _ _ HQs.out.zbox (fun hSn => ?_)
   clear hK K hSw0
   have hSw0 := hSn
   clear hSn
   refine Kn.takeS 9 ⟨some 220, _, _, _, _, _⟩ ?_
   refine Kn.takeR 10 ⟨some 221, _, _, _, _, _⟩ fun K hK => ?_
   go_simp
   refine (awake15_any _).mono ?_
   rintro en wl ⟨rfl, hO⟩
   have HQsw := Lib.hid (HQs.out.keep0 hO)
   clear hO
   clear HQs
   refine hK.out _ _ HQsw.out.zbox (fun hSn => ?_)
   clear hK K hSw0
   have hSw0 := hSn
   clear hSn
   refine Kn.takeS 11 ⟨some 222, _, _, _, _, _⟩ ?_
   refine Kn.takeS 12 ⟨some 8, _, _, _, _, _⟩ ?_
   refine wpAnyH_done (by kernel_rfl) ?_ _
   clear hSw0
   go_wp2
   go_ret
   exact ⟨rfl, HQsw.out.only⟩
end Go.Proofs.YtgcfdjcpcclcjaaGreat
namespace Go.Proofs.YtgcfdjcpcclcjaaGreat
open Go.ChangeShapes Go.WideShapes Go.ChangeAt Go.RowKit Go.Kn Go.Deep
variable {H : Type} {enc : TypeId × Value → H}
theorem okWide_array {P : Program} {w : World} {r : Reach} {b0 : Nat} {t e : TypeId} {n : Nat} {v : Value} (ht : P.underlying t = some (.array n e)) (h : Value.okWide P w r b0 t v) : ∃ cs, v = .agg cs ∧ cs.size = P.cellsOf t := by
 simp only [Value.okWide, ht] at h
 obtain ⟨cs, h1, h2, _⟩ := h
 exact ⟨cs, h1, h2⟩
theorem open_pos {w : World} {base : Nat} {spare : Nat → Bool} {held : Bool} {v : Value} {d : DataW H} {p : List MemPlace} (hok : ∃ cs, v = .agg cs ∧ cs.size = Tryz.prog.cellsOf 32)
  (h : DataW.Trod enc Tryz.prog w base spare held 32 v d p) : ∃ z0 z1 z2 z3 z4 : Int, v = .agg #[.int .i64 z0, .int .i64 z1, .int .i64 z2, .int .i64 z3, .int .i64 z4] ∧ (Lit.int .i64 z0).wf = true ∧ (Lit.int .i64 z1).wf = true ∧ (Lit.int .i64 z2).wf = true ∧ (Lit.int .i64 z3).wf = true ∧ (Lit.int .i64 z4).wf = true := by
 obtain ⟨cs, rfl, hs⟩ := hok
 have hC : Tryz.prog.cellsOf 32 = 5 := by kernel_rfl
 rw [hC] at hs
 obtain ⟨c0, c1, c2, c3, c4, rfl⟩ : ∃ c0 c1 c2 c3 c4, cs = #[c0, c1, c2, c3, c4] := by
  match cs, hs with
  | ⟨[c0, c1, c2, c3, c4]⟩, _ => exact ⟨c0, c1, c2, c3, c4, rfl⟩
 obtain ⟨fuel, hf⟩ := h
 have hf' : DataW.trod enc Tryz.prog w base spare held fuel 32 [c0, c1, c2, c3, c4] = some (d, p) := hf
 obtain ⟨xs2, n2, _, _, _, hl2, hfs2⟩ := DataW.trod_struct Tryz.underlying32 hf'
 have hm2 : xs2.length = 5 := hl2
 obtain ⟨y2_0, y2_1, y2_2, y2_3, y2_4, rfl⟩ : ∃ y2_0 y2_1 y2_2 y2_3 y2_4, xs2 = [y2_0, y2_1, y2_2, y2_3, y2_4] := by
  match xs2, hm2 with
  | [y2_0, y2_1, y2_2, y2_3, y2_4], _ => exact ⟨y2_0, y2_1, y2_2, y2_3, y2_4, rfl⟩
 have e2_0 : DataW.trod enc Tryz.prog w base spare held n2 3 (([c0, c1, c2, c3, c4].drop 0).take (Tryz.prog.cellsOf 3)) = some y2_0 := hfs2 0 _ rfl
 rw [show Tryz.prog.cellsOf 3 = 1 from by kernel_rfl] at e2_0
 simp only [List.drop_zero, List.drop_succ_cons, List.take_succ_cons, List.take_zero] at e2_0
 have e2_1 : DataW.trod enc Tryz.prog w base spare held n2 3 (([c0, c1, c2, c3, c4].drop 1).take (Tryz.prog.cellsOf 3)) = some y2_1 := hfs2 1 _ rfl
 rw [show Tryz.prog.cellsOf 3 = 1 from by kernel_rfl] at e2_1
 simp only [List.drop_zero, List.drop_succ_cons, List.take_succ_cons, List.take_zero] at e2_1
 have e2_2 : DataW.trod enc Tryz.prog w base spare held n2 3 (([c0, c1, c2, c3, c4].drop 2).take (Tryz.prog.cellsOf 3)) = some y2_2 := hfs2 2 _ rfl
 rw [show Tryz.prog.cellsOf 3 = 1 from by kernel_rfl] at e2_2
 simp only [List.drop_zero, List.drop_succ_cons, List.take_succ_cons, List.take_zero] at e2_2
 have e2_3 : DataW.trod enc Tryz.prog w base spare held n2 3 (([c0, c1, c2, c3, c4].drop 3).take (Tryz.prog.cellsOf 3)) = some y2_3 := hfs2 3 _ rfl
 rw [show Tryz.prog.cellsOf 3 = 1 from by kernel_rfl] at e2_3
 simp only [List.drop_zero, List.drop_succ_cons, List.take_succ_cons, List.take_zero] at e2_3
 have e2_4 : DataW.trod enc Tryz.prog w base spare held n2 3 (([c0, c1, c2, c3, c4].drop 4).take (Tryz.prog.cellsOf 3)) = some y2_4 := hfs2 4 _ rfl
 rw [show Tryz.prog.cellsOf 3 = 1 from by kernel_rfl] at e2_4
 simp only [List.drop_zero, List.drop_succ_cons, List.take_succ_cons, List.take_zero] at e2_4
 obtain ⟨z_c0, rfl, w_c0⟩ := open_int1 (k := .i64) Tryz.underlying3 e2_0
 obtain ⟨z_c1, rfl, w_c1⟩ := open_int1 (k := .i64) Tryz.underlying3 e2_1
 obtain ⟨z_c2, rfl, w_c2⟩ := open_int1 (k := .i64) Tryz.underlying3 e2_2
 obtain ⟨z_c3, rfl, w_c3⟩ := open_int1 (k := .i64) Tryz.underlying3 e2_3
 obtain ⟨z_c4, rfl, w_c4⟩ := open_int1 (k := .i64) Tryz.underlying3 e2_4
 exact ⟨z_c0, z_c1, z_c2, z_c3, z_c4, rfl, w_c0, w_c1, w_c2, w_c3, w_c4⟩
end Go.Proofs.YtgcfdjcpcclcjaaGreat
namespace Go.Proofs.YtgcfdjcpcclcjaaGreat
open Go.ChangeShapes Go.WideShapes Go.ChangeAt Go.RowKit Go.Kn Go.Deep
variable {H : Type} {enc : TypeId × Value → H}
theorem open_arr3 {w : World} {base : Nat} {spare : Nat → Bool} {held : Bool} {v : Value} {d : DataW H} {p : List MemPlace} (hok : ∃ cs, v = .agg cs ∧ cs.size = Tryz.prog.cellsOf 71)
  (h : DataW.Trod enc Tryz.prog w base spare held 71 v d p) : ∃ z0 z1 z2 : Int, v = .agg #[.int .i64 z0, .int .i64 z1, .int .i64 z2] ∧ (Lit.int .i64 z0).wf = true ∧ (Lit.int .i64 z1).wf = true ∧ (Lit.int .i64 z2).wf = true := by
 obtain ⟨cs, rfl, hs⟩ := hok
 have hC : Tryz.prog.cellsOf 71 = 3 := by kernel_rfl
 rw [hC] at hs
 obtain ⟨c0, c1, c2, rfl⟩ : ∃ c0 c1 c2, cs = #[c0, c1, c2] := by
  match cs, hs with
  | ⟨[c0, c1, c2]⟩, _ => exact ⟨c0, c1, c2, rfl⟩
 obtain ⟨fuel, hf⟩ := h
 have hf' : DataW.trod enc Tryz.prog w base spare held fuel 71 [c0, c1, c2] = some (d, p) := hf
 obtain ⟨y0, y1, y2, n', _, t0, t1, t2⟩ := trod_array3 Tryz.underlying71 (by kernel_rfl) hf'
 obtain ⟨z_c0, rfl, w_c0⟩ := open_int1 (k := .i64) Tryz.underlying3 t0
 obtain ⟨z_c1, rfl, w_c1⟩ := open_int1 (k := .i64) Tryz.underlying3 t1
 obtain ⟨z_c2, rfl, w_c2⟩ := open_int1 (k := .i64) Tryz.underlying3 t2
 exact ⟨z_c0, z_c1, z_c2, rfl, w_c0, w_c1, w_c2⟩
end Go.Proofs.YtgcfdjcpcclcjaaGreat
