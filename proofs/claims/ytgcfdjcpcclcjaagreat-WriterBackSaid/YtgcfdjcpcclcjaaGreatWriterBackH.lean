/- StqP, PlcP, Fill, AwkP, WrJ, Awake15, WrK, WlkA, RingQ, ChnD, LgwP, LgwQ, RomP, WrL, WrM, BckT: joined by pack.py, without what the claim does not use. -/
import Derived.Test.YtgcfdjcpcclcjaaGreatWriterBackG
set_option linter.unusedVariables false
set_option linter.unusedSimpArgs false
namespace Go.Kn
open Go Go.RowKit
def is2 (x : Int) : Bool := decide (x = 2)
/-- what waits, if anything does, is emitted -/
def Em1 (a x : Wr) : Prop := (x = a ∧ a.its = []) ∨ (a.its ≠ [] ∧ a.emit c8 = (x, 0))
/-- what an Add does ahead of the item -/
def Rch (n : Nat) (z y : Wr) : Prop := (n = 0 ∧ y = z) ∨ (n = 0 ∧ z.its ≠ [] ∧ z.emit c8 = (y, 0)) ∨ n = 1 ∧ ∃ (k : Nat) (x : Wr), k < 8 ∧ z.t.sts.getD k 0 = 0 ∧ Hw c8 { z with t := z.t.grab k } ∧ Em1 { z with t := z.t.grab k } x ∧ Hw c8 x ∧ x.its = [] ∧ x.bl = [] ∧ 22 ≤ x.p.o ∧ x.p.s = z.p.s ∧ x.p.l ≤ z.p.l + 1 ∧ x.turn c8 k = (y, 0)
structure PI (tn : Nat) (pot : Int) (z : Wr) : Prop where
 h : Hw c8 z
 ok : z.t.Ok 8
 op : z.t.sts.getD z.p.s.toNat 0 = 1
 f0 : z.t.sts.countP fr0 + tn = 7
 f2 : z.t.sts.countP is2 = tn
 pt : 21 * (tn : Int) + max z.p.o 1 + 2 * (z.its.length : Int) ≤ pot
 l : 2 * z.p.l + 2 * (z.its.length : Int) ≤ pot + 2 * (tn : Int) + 40
 held : 2 * (z.d.held.length : Int) + 6 * (z.its.length : Int) ≤ 3 * pot + 4 * (tn : Int)
section
variable {tn : Nat} {pot : Int} {z : Wr} {i : It} {b : List UInt8} {sp : Bool}
theorem PI.s8 (h : PI tn pot z) : 0 ≤ z.p.s ∧ z.p.s ≤ 7 := h.h.s
theorem PI.len (h : PI tn pot z) : z.t.sts.length = 8 := live_ok h.ok
theorem PI.tn7 (h : PI tn pot z) : tn ≤ 7 := by have := h.f0; omega
theorem bl_le {c : Cf} (h : Hw c z) : z.bl.length ≤ z.its.length := by rw [h.ld]; exact loads_le _
theorem PI.emit (h : PI tn pot z) (hp : pot ≤ 400) (hn : z.its ≠ []) : ∃ y, z.emit c8 = (y, 0) ∧ PI tn pot y ∧ y.its = [] ∧ y.bl = [] ∧ y.p.l = z.p.l + 1 ∧ y.p.s = z.p.s ∧ y.t.sts = z.t.sts ∧ y.p.o = behind z.p.o z.bl.length := by
 have hlm := h.l
 have hhm := h.held
 have hpt := h.pt
 have ht7 := h.tn7
 obtain ⟨d, e1, e2, e3, e4, _⟩ := h.h.emit (by omega) hn
 have hr := rcSum_lt2 (h.h.recMay (by omega) hn)
 have hll := h.h.l
 have hob := h.h.o.1
 have hfit := h.h.fit.resolve_left hn
 have h6 := h.h.six
 have hbl := bl_le h.h
 have hi0 : z.its.length ≠ 0 := fun e => hn (List.length_eq_zero_iff.1 e)
 have hst : (z.t.touch z.p.s z.p.l).sts = z.t.sts := sts_touch _ _ _
 refine ⟨_, e1, { h := { cok := h.h.cok, rdy := e2, len := e3, s := h.h.s, o := ⟨by show 0 ≤ behind _ _; unfold behind; omega, hfit⟩, l := by show 1 ≤ z.p.l + 1; omega, pp := ⟨by show (0 : Int) ≤ (rcSum _ : Nat); omega, by show ((rcSum _ : Nat) : Int) ≤ _; omega⟩, m := h.h.m, may := rfl, k7 := by simp, ld := rfl, f64 := rfl, six := by simp, fit := .inl rfl }, ok := h.ok.touch _ _, op := by show (z.t.touch _ _).sts.getD _ 0 = 1; rw [hst]; exact h.op, f0 := by show List.countP fr0 (z.t.touch _ _).sts + _ = 7; rw [hst]; exact h.f0, f2 := by show List.countP is2 (z.t.touch _ _).sts = _; rw [hst]; exact h.f2, pt := ?_, l := ?_, held := ?_ }, rfl, rfl, rfl, rfl, hst, rfl⟩
 ·show 21 * (tn : Int) + max (behind z.p.o z.bl.length) 1 + 2 * ((0 : Nat) : Int) ≤ pot
  unfold behind
  omega
 ·show 2 * (z.p.l + 1) + 2 * ((0 : Nat) : Int) ≤ _
  omega
 ·show 2 * (d.held.length : Int) + 6 * ((0 : Nat) : Int) ≤ _
  rw [e4]
  split <;> push_cast <;> omega
theorem PI.mono {p2 : Int} (h : PI tn pot z) (hp : pot ≤ p2) : PI tn p2 z := { h := h.h, ok := h.ok, op := h.op, f0 := h.f0, f2 := h.f2, pt := by have := h.pt; omega, l := by have := h.l; omega, held := by have := h.held; omega }
theorem PI.put (h : PI tn pot z) (hv : Wr.vok i b) (h6 : z.its.length + 1 ≤ 6) (hf : behind z.p.o (z.bl.length + nbl i) < 24) : PI tn (pot + 2) (z.put i b) := by
 have hi : (z.put i b).its.length = z.its.length + 1 := by show (z.its ++ [i]).length = _; simp
 have hpt := h.pt
 have hl := h.l
 have hh := h.held
 refine { h := put_ok h.h hv h6 (by show _ ≤ (24 : Int) - 1; omega), ok := h.ok, op := h.op, f0 := h.f0, f2 := h.f2, pt := ?_, l := ?_, held := ?_ }
 ·rw [hi]
  show 21 * (tn : Int) + max z.p.o 1 + _ ≤ _
  push_cast
  omega
 ·rw [hi]
  show 2 * z.p.l + _ ≤ _
  push_cast
  omega
 ·rw [hi]
  show 2 * (z.d.held.length : Int) + _ ≤ _
  push_cast
  omega
theorem PI.add (h : PI tn pot z) (hv : Wr.vok i b) (hsp : (sp = true ∧ pot ≤ 168) ∨ pot ≤ 126) :
  ∃ n y, z.add c8 i b sp = (y.put i b, y.at_ c8 i, 0) ∧ PI (tn + n) (pot + 2) (y.put i b) ∧ Hw c8 y ∧ y.t.Ok 8 ∧ Rch n z y := by
 have hlm := h.l
 have hhm := h.held
 have hpt := h.pt
 have ht7 := h.tn7
 have hp : pot ≤ 168 := by omega
 by_cases h1 : z.its.length + 1 ≤ 6 ∧ behind z.p.o (z.bl.length + nbl i) < c8.l
 ·exact ⟨0, z, (add_fit h.h hv h1.1 h1.2).1, h.put hv h1.1 h1.2, h.h, h.ok, .inl ⟨rfl, rfl⟩⟩
 ·by_cases h2 : behind (if z.its = [] then z.p.o else behind z.p.o z.bl.length) (nbl i) < c8.l
  ·have hn : z.its ≠ [] := by
    intro hn
    rw [if_pos hn] at h2
    have hb : z.bl.length = 0 := by have := bl_le h.h; rw [hn] at this; exact Nat.le_zero.1 this
    exact h1 ⟨by rw [hn]; decide, by rw [hb, Nat.zero_add]; exact h2⟩
   rw [if_neg hn] at h2
   obtain ⟨y, e0, e1, e2, e3, e4, e5⟩ := add_emit (sp := sp) h.h hv (by omega) h1 hn h2
   obtain ⟨y', f0, f1, f2, f3, f4, f5, f6, f7⟩ := h.emit (by omega) hn
   rw [e0] at f0
   obtain rfl : y = y' := (Prod.mk.inj f0).1
   exact ⟨0, y, e4, f1.put hv (by rw [e2]; decide) (by rw [e3, f7, List.length_nil, Nat.zero_add]; exact h2), e1, f1.ok, .inr (.inl ⟨rfl, hn, e0⟩)⟩
  ·have hn1 : nbl i ≤ 1 := by unfold nbl; split <;> omega
   have ho22 : 22 ≤ (if z.its = [] then z.p.o else behind z.p.o z.bl.length) := by
    unfold behind at h2 ⊢
    have hcl : c8.l = 24 := rfl
    omega
   have hpot2 : 21 * (tn : Int) + 22 ≤ pot := by
    by_cases hn : z.its = []
    ·rw [if_pos hn] at ho22
     omega
    ·have hi0 : z.its.length ≠ 0 := fun e => hn (List.length_eq_zero_iff.1 e)
     have hbl := bl_le h.h
     rw [if_neg hn] at ho22
     unfold behind at ho22
     omega
   have hfree : z.t.free = 7 - tn := by rw [free_sts]; have := h.f0; omega
   obtain ⟨k, hk⟩ := idx_free (t := z.t) (by rw [hfree]; omega)
   obtain ⟨k1, k2⟩ := idx_some hk
   rw [h.len] at k1
   have htk : z.t.takes sp = true := by
    unfold Tb.takes
    rcases hsp with ⟨rfl, _⟩ | hsp
    ·rfl
    ·rw [hfree, decide_eq_true (by omega)]
     simp
   obtain ⟨y, x, y1, y2, y3, y4, y5, y6, y7, y8, y9, x1, x2, x3, x4, x5, x6, x7, x8, x9, x10, x11⟩ := add_turn (sp := sp) h.h hv (by omega) h1 h2 htk hk (by show (k : Int) ≤ 7; omega)
   have hs8 := h.s8
   have hsk : z.p.s.toNat ≠ k := by
    intro e
    have := h.op
    rw [e, k2] at this
    exact absurd this (by decide)
   have hgs : (z.t.grab k).sts = z.t.sts.set k 1 := by
    rw [sts_grab (by rw [h.len]; omega), Int.toNat_natCast, if_pos k2]
   have hxs : x.t.sts = (z.t.sts.set k 1).set z.p.s.toNat 2 := by
    rw [x8, y7, sts_shut (by rw [sts_touch, y8, hgs, List.length_set, h.len]; omega), sts_touch, y8, hgs, if_pos]
    rw [List.getD_eq_getElem?_getD, List.getElem?_set_ne (fun e => hsk e.symm), ← List.getD_eq_getElem?_getD]
    exact h.op
   have hlen := h.len
   have hok : x.t.Ok 8 := by
    have hy8 : y.t.Ok 8 := by
     rcases y1 with ⟨rfl, _⟩ | ⟨hn, e⟩
     ·exact h.ok.grab _
     ·have := (Go.Proofs.YtgcfdjcpcclcjaaGreat.emit_s c8 { z with t := z.t.grab k } h.h.o.1).2.2.2.1 8 (h.ok.grab _)
      rw [e] at this
      exact this
    rw [x8]
    exact (hy8.touch _ _).shut _
   have hop := h.op
   have hf0 := h.f0
   have hf2 := h.f2
   have hg : ∀ {j : Nat} (hj : j < z.t.sts.length), z.t.sts[j] = z.t.sts.getD j 0 := fun hj => by rw [List.getD_eq_getElem?_getD, List.getElem?_eq_getElem hj]; rfl
   have hcnt : ∀ p : Int → Bool, x.t.sts.countP p + (if p 0 = true then 1 else 0) + (if p 1 = true then 1 else 0) = z.t.sts.countP p + (if p 1 = true then 1 else 0) + (if p 2 = true then 1 else 0) := by
    intro p
    have hl1 : k < z.t.sts.length := by omega
    have hl2 : z.p.s.toNat < (z.t.sts.set k 1).length := by rw [List.length_set]; omega
    have a1 := List.countP_set (p := p) (l := z.t.sts) (i := k) (a := (1 : Int)) hl1
    have a2 := List.countP_set (p := p) (l := z.t.sts.set k 1) (i := z.p.s.toNat) (a := (2 : Int)) hl2
    have g1 : (z.t.sts.set k 1)[z.p.s.toNat] = 1 := by
     rw [List.getElem_set_ne (fun e => hsk e.symm), hg (by omega)]
     exact hop
    rw [hg hl1, k2] at a1
    rw [g1] at a2
    rw [hxs, a2, a1]
    have b1 : (if p 0 = true then 1 else 0) ≤ z.t.sts.countP p := by
     split
     ·rename_i hp0
      exact List.countP_pos_iff.2 ⟨_, List.getElem_mem hl1, by rw [hg hl1, k2]; exact hp0⟩
     ·exact Nat.zero_le _
    have b2 : (if p 1 = true then 1 else 0) ≤ (z.t.sts.set k 1).countP p := by
     split
     ·rename_i hp0
      exact List.countP_pos_iff.2 ⟨_, List.getElem_mem hl2, by rw [g1]; exact hp0⟩
     ·exact Nat.zero_le _
    rw [a1] at b2
    omega
   have c0 := hcnt fr0
   have c2 := hcnt is2
   have e00 : fr0 0 = true := rfl
   have e01 : fr0 1 = false := rfl
   have e02 : fr0 2 = false := rfl
   have e20 : is2 0 = false := rfl
   have e21 : is2 1 = false := rfl
   have e22 : is2 2 = true := rfl
   rw [e00, e01, e02] at c0
   rw [e20, e21, e22] at c2
   simp only [if_true, Bool.false_eq_true, if_false] at c0 c2
   have hpi : PI (tn + 1) pot x := by
    have hbl := bl_le h.h
    refine { h := x2, ok := hok, op := ?_, f0 := by omega, f2 := by omega, pt := ?_, l := ?_, held := ?_ }
    ·rw [hxs, x6, Int.toNat_natCast, List.getD_eq_getElem?_getD, List.getElem?_set_ne hsk, List.getElem?_set_self (by omega)]
     rfl
    ·rw [x5, x3]
     show 21 * ((tn + 1 : Nat) : Int) + max 1 1 + 2 * ((0 : Nat) : Int) ≤ _
     push_cast
     omega
    ·rw [x3, x7]
     show _ + 2 * ((0 : Nat) : Int) ≤ _
     push_cast
     by_cases hn : z.its = []
     ·have : y.p.l = z.p.l := by
       rcases y1 with ⟨e, _⟩ | ⟨hn', _⟩
       ·rw [e]
       ·exact absurd hn hn'
      omega
     ·have hi0 : z.its.length ≠ 0 := fun e => hn (List.length_eq_zero_iff.1 e)
      omega
    ·rw [x3, x9]
     show _ + 6 * ((0 : Nat) : Int) ≤ _
     push_cast
     by_cases hn : z.its = []
     ·have : y.d = z.d := by
       rcases y1 with ⟨e, _⟩ | ⟨hn', _⟩
       ·rw [e]
       ·exact absurd hn hn'
      rw [this]
      omega
     ·have hi0 : z.its.length ≠ 0 := fun e => hn (List.length_eq_zero_iff.1 e)
      omega
   have hgr : Hw c8 { z with t := z.t.grab k } := { cok := h.h.cok, rdy := h.h.rdy, len := h.h.len, s := h.h.s, o := h.h.o, l := h.h.l, pp := h.h.pp, m := h.h.m, may := h.h.may, k7 := h.h.k7, ld := h.h.ld, f64 := h.h.f64, six := h.h.six, fit := h.h.fit }
   exact ⟨1, x, x10, hpi.put hv (by rw [x3]; decide) (by rw [x4, x5]; show behind 1 (0 + nbl i) < 24; unfold behind; omega), x2, hok, .inr (.inr ⟨rfl, k, y, k1, k2, hgr, y1, y2, y3, y4, by rw [y5]; exact ho22, y7, y6, x1⟩)⟩
end
end Go.Kn
namespace Go.Kn
open Go Go.RowKit
/-- a block that was told to lie at k: its segment was taken, it lies behind a record's first sector, and it is read there -/
structure Plc (U : Int → Prop) (z : Wr) (k : Int) (v : List UInt8) (s off : Int) : Prop where
 hs : 0 ≤ s ∧ s ≤ 7
 ho : 2 ≤ off ∧ off ≤ 22
 hk : k = c8.at_ s + off
 u : U s
 cur : s = z.p.s → off < max z.p.o 1 ∨ (max z.p.o 1 + 1 ≤ off ∧ off < max z.p.o 1 + 1 + (z.bl.length : Int))
 rd : z.rd c8 k = (v, 0)
section
variable {U : Int → Prop} {z y : Wr} {k : Int} {v b : List UInt8} {s off : Int} {i : It}
theorem at8 {s : Int} (h : 0 ≤ s ∧ s ≤ 7) : c8.at_ s = 10 + 24 * s := by
 unfold Cf.at_
 have e1 : c8.s = 8 := rfl
 have e2 : c8.l = 24 := rfl
 have e3 : (2 : Int) + 2 * rln c8.s + 4 * pgs c8.b = 10 := rfl
 rw [if_pos ⟨h.1, by omega⟩, e2, e3]
 omega
theorem first8 (h : 0 ≤ z.p.s ∧ z.p.s ≤ 7) : Wr.first c8 z = 10 + 24 * z.p.s + (max z.p.o 1 + 1) := by
 unfold Wr.first behind
 rw [at8 h]
 omega
theorem Plc.k8 (h : Plc U z k v s off) : k = 10 + 24 * s + off := by rw [h.hk, at8 h.hs]
/-- on the disk: a sector that the next step leaves -/
theorem read_keep {d d' : Dk} (h : Rdy d) (h' : Rdy d') (hl : (d.safe.length : Int) = c8.sectors) (hl' : (d'.safe.length : Int) = c8.sectors) {x : Int} (hx : d'.now[x.toNat]? = d.now[x.toNat]?) : d'.err x = d.err x ∧ d'.read x = d.read x := read_now h h' (by omega) hx
theorem Plc.waits (hz : Hw c8 z) (h : Plc U z k v s off) (hw : s = z.p.s ∧ max z.p.o 1 + 1 ≤ off) : ∃ j : Nat, j < z.bl.length ∧ off = max z.p.o 1 + 1 + (j : Int) ∧ z.bl[j]? = some v := by
 have hs := h.hs
 have hf := first8 (z := z) hz.s
 have hc := (h.cur hw.1).resolve_left (by omega)
 have hk := h.k8
 have hr := h.rd
 refine ⟨(off - (max z.p.o 1 + 1)).toNat, by omega, by omega, ?_⟩
 unfold Wr.rd at hr
 rw [hf, if_pos (by omega)] at hr
 have := (Prod.mk.inj hr).1
 rw [List.getD_eq_getElem?_getD, show (k - (10 + 24 * z.p.s + (max z.p.o 1 + 1))).toNat = (off - (max z.p.o 1 + 1)).toNat from by omega] at this
 rw [List.getElem?_eq_getElem (by omega)] at this ⊢
 exact congrArg some this
theorem Plc.lies (hz : Hw c8 z) (h : Plc U z k v s off) (hw : s = z.p.s → off < max z.p.o 1) : z.d.read k = v ∧ z.d.err k = 0 := by
 have hs := h.hs
 have hf := first8 (z := z) hz.s
 have hk := h.k8
 have hr := h.rd
 have ho := h.ho
 have hzs : 0 ≤ z.p.s ∧ z.p.s ≤ 7 := hz.s
 have hzo : 0 ≤ z.p.o ∧ z.p.o ≤ 23 := hz.o
 have hbl : (z.bl.length : Int) ≤ 22 - max z.p.o 1 ∨ z.bl.length = 0 := by
  rcases hz.fit with e | e
  ·right
   have := bl_le hz
   rw [e] at this
   simpa using this
  ·left
   have e' : behind z.p.o z.bl.length ≤ 23 := e
   unfold behind at e'
   omega
 unfold Wr.rd at hr
 rw [hf, if_neg] at hr
 ·exact ⟨(Prod.mk.inj hr).1, (Prod.mk.inj hr).2⟩
 ·by_cases e : s = z.p.s
  ·have := hw e
   subst e
   omega
  ·omega
theorem Plc.emit (hz : Hw c8 z) (hl : z.p.l ≤ 2147483647) (hn : z.its ≠ []) (h : Plc U z k v s off) (hy : z.emit c8 = (y, 0)) : Plc U y k v s off := by
 obtain ⟨d, e1, e2, e3, e4, e5⟩ := hz.emit hl hn
 rw [e1] at hy
 obtain rfl := (Prod.mk.inj hy).1
 have hs := h.hs
 have ho := h.ho
 have hk := h.k8
 have hzs : 0 ≤ z.p.s ∧ z.p.s ≤ 7 := hz.s
 have hzo : 0 ≤ z.p.o ∧ z.p.o ≤ 23 := hz.o
 have hat := at8 hzs
 have hfit : behind z.p.o z.bl.length ≤ 23 := hz.fit.resolve_left hn
 have hlen : (z.d.safe.length : Int) = 202 := hz.len
 have hlen2 : (d.safe.length : Int) = 202 := e3
 have hnow : z.d.now.length = z.d.safe.length := Dk.now_length _
 unfold behind at hfit
 have hcur : s = z.p.s → off < max (behind z.p.o z.bl.length) 1 := by
  intro e
  have := h.cur e
  unfold behind
  omega
 have hfst : Wr.first c8 (⟨d, z.t.touch z.p.s z.p.l, ⟨z.p.s, behind z.p.o z.bl.length, z.p.l + 1, (rcSum z.rcd : Nat), z.p.m⟩, [], []⟩ : Wr) = _ := first8 (z := ⟨d, z.t.touch z.p.s z.p.l, ⟨z.p.s, behind z.p.o z.bl.length, z.p.l + 1, (rcSum z.rcd : Nat), z.p.m⟩, [], []⟩) hzs
 have hread : d.read k = v ∧ d.err k = 0 := by
  by_cases hw : s = z.p.s ∧ max z.p.o 1 + 1 ≤ off
  ·obtain ⟨j, j1, j2, j3⟩ := h.waits hz hw
   have hrm := hz.recMay hl hn
   have hblen : z.rcd.bl.length = z.bl.length := rfl
   have hrb := rcBytes_length hrm
   have hkn : k.toNat = (c8.at_ z.p.s + max z.p.o 1).toNat + (1 + j) := by
    rw [hat]
    have := hw.1
    subst this
    omega
   have hsec : d.now[k.toNat]? = some v := by
    rw [e5, hkn, setSecs_at _ _ _ (1 + j) _ (by omega)]
    ·have h6 : z.rcd.its.length ≤ 6 := hz.six
     rw [show 64 * (1 + j) = 64 + 64 * j from by omega, ← List.drop_drop, rcBytes_flat h6, flat64_get (show full64 z.rcd.bl = true from hz.f64) j j1]
     rw [← j3]
     show some z.bl[j] = z.bl[j]?
     rw [List.getElem?_eq_getElem j1]
    ·split
     ·rw [List.length_set, hnow]
      rw [hat]
      have := hw.1
      subst this
      omega
     ·rw [hnow, hat]
      have := hw.1
      subst this
      omega
   have hh : d.has k = true := has_of (by omega) (by omega)
   exact ⟨e2.read_sec hh hsec, e2.err0 hh⟩
  ·have hold : s = z.p.s → off < max z.p.o 1 := by
    intro e
    rcases h.cur e with c | c
    ·exact c
    ·exact absurd ⟨e, c.1⟩ hw
   obtain ⟨l1, l2⟩ := h.lies hz hold
   have hkeep : d.now[k.toNat]? = z.d.now[k.toNat]? := by
    rw [e5, setSecs_other _ _ _ _ _ (by
     rw [hat]
     by_cases e : s = z.p.s
     ·have := hold e
      subst e
      left
      omega
     ·omega)]
    split
    ·rw [List.getElem?_set_ne]
     rw [hat]
     omega
    ·rfl
   obtain ⟨r1, r2⟩ := read_keep hz.rdy e2 hz.len e3 hkeep
   exact ⟨r2.trans l1, r1.trans l2⟩
 refine ⟨hs, ho, h.hk, h.u, fun e => .inl (hcur e), ?_⟩
 unfold Wr.rd
 rw [if_neg]
 ·rw [hread.1, hread.2]
 ·show ¬ (_ ∧ _ < ((0 : Nat) : Int))
  omega
theorem Plc.turn (hz : Hw c8 z) (hl : z.p.l ≤ 2147483646) (ho1 : 1 ≤ z.p.o) (hb : z.bl = []) {n : Nat} (hn : n < 8) (hu : ¬ U (n : Int)) (h : Plc U z k v s off) (hy : z.turn c8 n = (y, 0)) : Plc U y k v s off := by
 obtain ⟨d, e1, e2, e3, e4, e5⟩ := hz.turn (s := (n : Int)) ⟨by omega, by show (n : Int) ≤ 7; omega⟩ hl ho1
 rw [e1] at hy
 obtain rfl := (Prod.mk.inj hy).1
 have hs := h.hs
 have ho := h.ho
 have hk := h.k8
 have hzs : 0 ≤ z.p.s ∧ z.p.s ≤ 7 := hz.s
 have hat := at8 hzs
 have hat2 := at8 (s := (n : Int)) ⟨by omega, by omega⟩
 have hsn : s ≠ (n : Int) := fun e => hu (e ▸ h.u)
 have hold : s = z.p.s → off < max z.p.o 1 := by
  intro e
  rcases h.cur e with c | c
  ·exact c
  ·rw [hb] at c
   simp only [List.length_nil] at c
   omega
 obtain ⟨l1, l2⟩ := h.lies hz hold
 have hkeep : d.now[k.toNat]? = z.d.now[k.toNat]? := by
  rw [e5, List.getElem?_set_ne (by rw [hat2]; omega), setSecs_other _ _ _ _ _ (by
   rw [hat]
   have hzo : 0 ≤ z.p.o ∧ z.p.o ≤ 23 := hz.o
   by_cases e : s = z.p.s
   ·have := hold e
    subst e
    left
    omega
   ·omega)]
 obtain ⟨r1, r2⟩ := read_keep hz.rdy e2 hz.len e3 hkeep
 refine ⟨hs, ho, h.hk, h.u, fun e => absurd e hsn, ?_⟩
 unfold Wr.rd
 rw [if_neg]
 ·show (d.read k, d.err k) = _
  rw [r1, r2, l1, l2]
 ·show ¬ (_ ∧ _ < (z.bl.length : Int))
  rw [hb]
  show ¬ (_ ∧ _ < ((0 : Nat) : Int))
  omega
theorem Plc.put (hz : Hw c8 z) (h : Plc U z k v s off) : Plc U (z.put i b) k v s off := by
 have hf := first8 (z := z) hz.s
 have hk := h.k8
 have hs := h.hs
 have ho := h.ho
 have hzs : 0 ≤ z.p.s ∧ z.p.s ≤ 7 := hz.s
 have hle : z.bl.length ≤ (z.put i b).bl.length := by
  show _ ≤ (z.bl ++ _).length
  rw [List.length_append]
  omega
 refine ⟨hs, ho, h.hk, h.u, fun e => ?_, ?_⟩
 ·have := h.cur e
  show off < max z.p.o 1 ∨ _
  rcases this with c | ⟨c1, c2⟩
  ·exact .inl c
  ·refine .inr ⟨c1, ?_⟩
   show off < max z.p.o 1 + 1 + _
   omega
 ·by_cases hw : s = z.p.s ∧ max z.p.o 1 + 1 ≤ off
  ·obtain ⟨j, j1, j2, j3⟩ := h.waits hz hw
   unfold Wr.rd
   have hfp : Wr.first c8 (z.put i b) = Wr.first c8 z := rfl
   have hks : k - Wr.first c8 z = (j : Int) := by
    rw [hf]
    have := hw.1
    subst this
    omega
   rw [hfp, hks, if_pos ⟨by omega, by omega⟩, Int.toNat_natCast]
   show ((z.bl ++ _).getD j [], (0 : Int)) = _
   rw [List.getD_eq_getElem?_getD, List.getElem?_append_left j1, j3]
   rfl
  ·have hold : s = z.p.s → off < max z.p.o 1 := by
    intro e
    rcases h.cur e with c | c
    ·exact c
    ·exact absurd ⟨e, c.1⟩ hw
   obtain ⟨l1, l2⟩ := h.lies hz hold
   have hblb : (z.put i b).bl.length ≤ z.bl.length + 1 := by
    show (z.bl ++ _).length ≤ _
    rw [List.length_append]
    split <;> simp
   unfold Wr.rd
   have hfp : Wr.first c8 (z.put i b) = Wr.first c8 z := rfl
   rw [hfp, hf, if_neg]
   ·show (z.d.read k, z.d.err k) = _
    rw [l1, l2]
   ·have hzo : 0 ≤ z.p.o ∧ z.p.o ≤ 23 := hz.o
    have hbl : (z.bl.length : Int) ≤ 22 - max z.p.o 1 ∨ z.bl.length = 0 := by
     rcases hz.fit with e | e
     ·right
      have := bl_le hz
      rw [e] at this
      simpa using this
     ·left
      have e' : behind z.p.o z.bl.length ≤ 23 := e
      unfold behind at e'
      omega
    by_cases e : s = z.p.s
    ·have := hold e
     subst e
     omega
    ·omega
theorem Plc.imp {U' : Int → Prop} (h : Plc U z k v s off) (hi : ∀ s, U s → U' s) : Plc U' z k v s off := ⟨h.hs, h.ho, h.hk, hi _ h.u, h.cur, h.rd⟩
theorem Plc.ne (hz : Hw c8 z) (h : Plc U z k v s off) : k ≠ Wr.first c8 z + (z.bl.length : Int) := by
 rw [first8 hz.s, h.k8]
 have hs := h.hs
 have ho := h.ho
 have hzs : 0 ≤ z.p.s ∧ z.p.s ≤ 7 := hz.s
 have hzo : 0 ≤ z.p.o ∧ z.p.o ≤ 23 := hz.o
 have hbl : (z.bl.length : Int) ≤ 22 - max z.p.o 1 ∨ z.bl.length = 0 := by
  rcases hz.fit with e | e
  ·right
   have := bl_le hz
   rw [e] at this
   simpa using this
  ·left
   have e' : behind z.p.o z.bl.length ≤ 23 := e
   unfold behind at e'
   omega
 by_cases e : s = z.p.s
 ·have := h.cur e
  subst e
  omega
 ·omega
/-- the next block: where it will lie -/
theorem Plc.new (hz : Hw c8 (z.put i b)) (hld : i.loaded = true) (hU : U z.p.s) : Plc U (z.put i b) (Wr.first c8 z + (z.bl.length : Int)) b z.p.s (max z.p.o 1 + 1 + (z.bl.length : Int)) := by
 have hs : 0 ≤ z.p.s ∧ z.p.s ≤ 7 := hz.s
 have hbl : (z.put i b).bl = z.bl ++ [b] := by unfold Wr.put; rw [hld]; rfl
 have hfit : behind z.p.o (z.put i b).bl.length ≤ 23 := hz.fit.resolve_left (by unfold Wr.put; simp)
 rw [hbl, List.length_append] at hfit
 unfold behind at hfit
 have hzo : 0 ≤ z.p.o := hz.o.1
 have hl1 : [b].length = 1 := rfl
 refine ⟨hs, by omega, by rw [first8 hs, at8 hs]; omega, hU, fun _ => .inr ⟨by show max z.p.o 1 + 1 ≤ _; omega, ?_⟩, ?_⟩
 ·rw [hbl, List.length_append]
  show _ < max z.p.o 1 + 1 + _
  push_cast
  omega
 ·unfold Wr.rd
  have hfp : Wr.first c8 (z.put i b) = Wr.first c8 z := rfl
  rw [hfp, hbl, List.length_append, if_pos (by omega), show Wr.first c8 z + (z.bl.length : Int) - Wr.first c8 z = ((z.bl.length : Nat) : Int) from by omega, Int.toNat_natCast]
  rw [List.getD_eq_getElem?_getD, List.getElem?_append_right (Nat.le_refl _), Nat.sub_self]
  rfl
/-- the segments that are not Free -/
def nzs (z : Wr) (s : Int) : Prop := z.t.sts.getD s.toNat 0 ≠ 0
theorem set_nz {l : List Int} {j m : Nat} {a : Int} (ha : a ≠ 0) (h : l.getD m 0 ≠ 0) : (l.set j a).getD m 0 ≠ 0 := by
 rw [List.getD_eq_getElem?_getD] at h ⊢
 rw [List.getElem?_set]
 split
 ·split
  ·exact ha
  ·rename_i h1 h2
   rw [List.getElem?_eq_none (by omega)] at h
   exact absurd rfl h
 ·exact h
theorem grab_nz {t : Tb} {j : Int} {m : Nat} (h : t.sts.getD m 0 ≠ 0) : (t.grab j).sts.getD m 0 ≠ 0 := by
 by_cases hj : 0 ≤ j ∧ j < t.sts.length
 ·rw [sts_grab hj]
  split
  ·exact set_nz (by decide) h
  ·exact h
 ·unfold Tb.grab Tb.grabs
  rw [if_neg]
  ·exact h
  ·rw [show t.has j = false from Bool.eq_false_iff.2 fun e => hj (hasS_iff.1 e)]
   simp
theorem shut_nz {t : Tb} {j : Int} {m : Nat} (h : t.sts.getD m 0 ≠ 0) : (t.shut j).sts.getD m 0 ≠ 0 := by
 by_cases hj : 0 ≤ j ∧ j < t.sts.length
 ·rw [sts_shut hj]
  split
  ·exact set_nz (by decide) h
  ·exact h
 ·unfold Tb.shut
  rw [if_neg]
  ·exact h
  ·rw [show t.has j = false from Bool.eq_false_iff.2 fun e => hj (hasS_iff.1 e)]
   simp
theorem emit_nz (hz : Hw c8 z) (hl : z.p.l ≤ 2147483647) (hn : z.its ≠ []) (hy : z.emit c8 = (y, 0)) {m : Int} (h : nzs z m) : nzs y m := by
 obtain ⟨d, e1, _⟩ := hz.emit hl hn
 rw [e1] at hy
 obtain rfl := (Prod.mk.inj hy).1
 show (z.t.touch _ _).sts.getD _ 0 ≠ 0
 rw [sts_touch]
 exact h
theorem turn_nz (hz : Hw c8 z) (hl : z.p.l ≤ 2147483646) (ho1 : 1 ≤ z.p.o) {n : Nat} (hn : n < 8) (hy : z.turn c8 n = (y, 0)) {m : Int} (h : nzs z m) : nzs y m := by
 obtain ⟨d, e1, _⟩ := hz.turn (s := (n : Int)) ⟨by omega, by show (n : Int) ≤ 7; omega⟩ hl ho1
 rw [e1] at hy
 obtain rfl := (Prod.mk.inj hy).1
 refine shut_nz ?_
 rw [sts_touch]
 exact h
theorem Plc.rch (hz : Hw c8 z) (hl : z.p.l ≤ 2147483645) (h : Plc (nzs z) z k v s off) {dn : Nat} (hr : Rch dn z y) : Plc (nzs y) y k v s off := by
 rcases hr with ⟨_, rfl⟩ | ⟨_, hn, e⟩ | ⟨_, n, x, n8, nf, hg, he, hx, xi, xb, xo, xs, xl, e⟩
 ·exact h
 ·exact (h.emit hz (by omega) hn e).imp fun s hs => emit_nz hz (by omega) hn e hs
 ·have h0 : Plc (nzs z) ({ z with t := z.t.grab n } : Wr) k v s off := ⟨h.hs, h.ho, h.hk, h.u, h.cur, h.rd⟩
  have hn0 : ∀ s, nzs z s → nzs ({ z with t := z.t.grab n } : Wr) s := fun s hs => grab_nz hs
  have h1 : Plc (nzs z) x k v s off ∧ ∀ s, nzs z s → nzs x s := by
   rcases he with ⟨rfl, _⟩ | ⟨hne, e1⟩
   ·exact ⟨h0, hn0⟩
   ·exact ⟨h0.emit hg (by show z.p.l ≤ _; omega) hne e1, fun s hs => emit_nz hg (by show z.p.l ≤ _; omega) hne e1 (hn0 s hs)⟩
  exact (h1.1.turn hx (by omega) (by omega) xb n8 (by unfold nzs; rw [Int.toNat_natCast, nf]; simp) e).imp fun s hs => turn_nz hx (by omega) (by omega) n8 e (h1.2 s hs)
end
end Go.Kn
namespace Go.Kn
open Go Go.RowKit
def fillAt (x : Int) (k : Nat) : UInt8 := UInt8.ofNat ((x % 256).toNat + k)
/-- 64 bytes that begin with a number and count on -/
def fillB (x : Int) : List UInt8 := (List.range 64).map (fillAt x)
def fillP (x : Int) (t : Nat) : List UInt8 := (List.range 64).map fun k => if k < t then fillAt x k else 0
theorem fillP_zero (x : Int) : fillP x 0 = List.replicate 64 0 := by
 unfold fillP
 simp only [Nat.not_lt_zero, if_false]
 rfl
theorem fillP_full (x : Int) : fillP x 64 = fillB x := by
 unfold fillP fillB
 apply List.map_congr_left
 intro k hk
 rw [if_pos (List.mem_range.1 hk)]
@[simp] theorem fillP_length (x : Int) (t : Nat) : (fillP x t).length = 64 := by simp [fillP]
theorem fillP_get (x : Int) (t i : Nat) (h : i < (fillP x t).length) : (fillP x t)[i] = if i < t then fillAt x i else 0 := by simp [fillP]
theorem fillP_set (x : Int) (t : Nat) (ht : t < 64) : (fillP x t).set t (fillAt x t) = fillP x (t + 1) := by
 apply List.ext_getElem
 ·simp
 ·intro i h1 h2
  rw [List.getElem_set, fillP_get, fillP_get]
  by_cases h : t = i
  ·subst h
   rw [if_pos rfl, if_pos (by omega)]
  ·rw [if_neg h]
   by_cases h3 : i < t
   ·rw [if_pos h3, if_pos (by omega)]
   ·rw [if_neg h3, if_neg (by omega)]
theorem fill_wrap (x : Int) (t : Nat) : IntKind.u8.wrap ((x % 256 + (t : Int)) % 256) = ((fillAt x t).toNat : Int) := by
 unfold fillAt
 rw [UInt8.toNat_ofNat']
 simp [IntKind.wrap, IntKind.signed, IntKind.bits]
 omega
end Go.Kn
namespace Go.Proofs.YtgcfdjcpcclcjaaGreat
open Go Go.RowKit Go.Kn
set_option maxRecDepth 100000 in
set_option maxHeartbeats 4000000 in
theorem fill_any (x : Int) (w : World) (hx : (Lit.int .i64 x).wf = true) :
  Calls Tryz.prog 108 #[.int .i64 x] w fun e w' => ∃ g, e = .returned (.slice (some ⟨g, 0, none⟩) 64 64) ∧ w.heap.size ≤ g ∧ Kn.Own w' g (bvs (fillB x)) ∧ Only [] w w' := by
 have hmk : ∀ w : World, (Instr.makeSlice 47 (.int .i64 64) (.int .i64 64)).run Tryz.prog w = .ok (.slice (some ⟨w.heap.size, 0, none⟩) 64 64) (w.alloc (.cells (bvs (List.replicate 64 0)).toArray 5)) := make_bys 64 (by decide)
 have HX := Lib.hid hx
 clear hx
 go_enter Tryz.func108, Tryz.ntmps108
 go_wp2_with fail
 have h0 : Kn.Own (w.alloc (.cells (bvs (List.replicate 64 0)).toArray 5)) w.heap.size (bvs (fillP x 0)) := by
  rw [fillP_zero]
  exact Own.new w (bvs (List.replicate 64 0)).toArray 5
 have HO0 := Lib.hid ((Only.refl [] w).alloc (.cells (bvs (List.replicate 64 0)).toArray 5))
 have HW0 := Lib.hid h0
 clear h0 hmk
 go_loopg [4] 64 (fun r i wr => ∃ t : Nat, t + r = 64 ∧ i = .int .i64 t ∧ Kn.Own wr w.heap.size (bvs (fillP x t)) ∧ Only [] w wr)
 case atStart => exact ⟨0, by omega, rfl, HW0.out, HO0.out⟩
 obtain ⟨t, ht, rfl, hown, hO⟩ := hrel
 have HO := Lib.hid hO
 have HOWN := Lib.hid hown
 clear hO hown
 by_cases ht64 : t < 64
 ·have q0 := HOWN.out.cell t (by simpa using ht64)
  have f0 := HOWN.out.frozen t
  have hst := HOWN.out.set t (.int .u8 ((fillAt x t).toNat : Int))
  have hse : (bvs (fillP x t)).set t (.int .u8 ((fillAt x t).toNat : Int)) = bvs (fillP x (t + 1)) := by
   rw [← fillP_set x t ht64, bvs, bvs, List.map_set]
  rw [hse] at hst
  have HST := Lib.hid hst
  have hwr := fill_wrap x t
  generalize (bvs (fillP x t))[t] = old at *
  generalize (fillAt x t).toNat = cc at *
  clear hst hse
  have hx1 : (t : Int) < 64 := by omega
  have hx0 : 0 ≤ (t : Int) := by omega
  have htt : ((t : Int)).toNat = t := by omega
  have hm0 : 0 ≤ x % 256 := Int.emod_nonneg _ (by decide)
  have hm1 : x % 256 < 256 := Int.emod_lt_of_pos _ (by decide)
  generalize hmm : x % 256 = m at *
  have HMM := Lib.hid hmm
  clear hmm
  go_wp2_with fail
  refine (round_any x 256 _ HX.out (by decide) (by decide)).mono ?_
  rintro e w' ⟨rfl, rfl⟩
  rw [HMM.out]
  go_wp2_with fail
  have hwf : (Lit.int .i64 (m + (t : Int))).wf = true := by simp [Lit.wf, IntKind.min, IntKind.max, IntKind.signed, IntKind.bits]; omega
  refine (round_any (m + (t : Int)) 256 _ hwf (by decide) (by decide)).mono ?_
  rintro e w' ⟨rfl, rfl⟩
  clear hwf
  go_wp2_with fail
  go_roundg (gk - 1)
  case measure => omega
  case rel => exact ⟨t + 1, by omega, by go_num, HST.out, HO.out.set (.inr (Nat.le_refl _)) _⟩
 ·obtain rfl : t = 64 := by omega
  have hown := HOWN.out
  rw [fillP_full] at hown
  have HF := Lib.hid hown
  go_wp2
  go_ret
  exact ⟨_, rfl, Nat.le_refl _, HF.out, HO.out⟩
end Go.Proofs.YtgcfdjcpcclcjaaGreat
namespace Go.Kn
open Go Go.RowKit
def aw0 : Wr := ⟨Dk.new 202, tbMade 8 c8 0 [], ⟨0, 0, 1, 0, 2⟩, [], []⟩
def awk (i : Nat) : Wr := { aw0 with its := (List.range i).map fun (j : Nat) => spIt (j : Int), bl := (List.range i).map fun (j : Nat) => fillB (j : Int) }
theorem fillB_length (x : Int) : (fillB x).length = 64 := by simp [fillB]
theorem aw_put (i : Nat) (h : i < 6) : (awk i).put (spIt (i : Int)) (fillB (i : Int)) = awk (i + 1) := by
 unfold Wr.put awk
 rw [spIt_ld ⟨by omega, by omega⟩, List.range_succ, List.map_append, List.map_append]
 rfl
theorem aw_len (i : Nat) : (awk i).its.length = i ∧ (awk i).bl.length = i := by
 unfold awk
 simp
theorem aw_fit (i m : Nat) : behind (awk i).p.o m = 2 + (m : Int) := rfl
theorem aw_step (i : Nat) (h : i < 6) (hw : Hw c8 (awk i)) : (awk i).add c8 (spIt (i : Int)) (fillB (i : Int)) false = (awk (i + 1), 12 + (i : Int), 0) ∧ Hw c8 (awk (i + 1)) := by
 obtain ⟨l1, l2⟩ := aw_len i
 have hx : 0 ≤ (i : Int) ∧ (i : Int) ≤ 63 := ⟨by omega, by omega⟩
 have hnb : nbl (spIt (i : Int)) = 1 := by unfold nbl; rw [spIt_ld hx]; rfl
 obtain ⟨e1, e2⟩ := add_fit (sp := false) hw (sp_vok hx (fillB_length _)) (by omega) (by rw [aw_fit, hnb, l2]; show _ < (24 : Int); push_cast; omega)
 rw [aw_put i h] at e1 e2
 refine ⟨?_, e2⟩
 rw [e1]
 unfold Wr.at_
 rw [if_pos (spIt_ld hx), l2]
 rfl
theorem aw_hw : ∀ i, i ≤ 6 → Hw c8 (awk i)
 | 0, _ => Hw.start c8ok _ rfl
 | i + 1, h => (aw_step i (by omega) (aw_hw i (by omega))).2
theorem aw_add (i : Nat) (h : i < 6) : (awk i).add c8 ⟨1, (i : Int), 0, 0⟩ (fillB (i : Int)) false = (awk (i + 1), 12 + (i : Int), 0) := (aw_step i h (aw_hw i (by omega))).1
theorem aw_read : (awk 6).rd c8 17 = (fillB 5, 0) := by
 unfold Wr.rd
 have hf : Wr.first c8 (awk 6) = 12 := rfl
 rw [hf, (aw_len 6).2, if_pos ⟨by decide, by decide⟩]
 rfl
theorem aw_next : (awk 6).add c8 ⟨7, 0, 0, 0⟩ [] false = (awk 6, 0, 1) := by
 unfold Wr.add
 rw [if_pos]
 simp
theorem aw_mark : ∃ y, (awk 6).add c8 ⟨3, 0, 0, 1⟩ [] false = (y, 0, 0) ∧ y.d.held.length = 8 ∧ y.p.o = 8 ∧ y.its.length = 1 := by
 have hm : It.may ⟨3, 0, 0, 1⟩ = true := (may_k 3 0 0 1).2 (.inr (.inr (.inl ⟨rfl, rfl, rfl, by decide, by decide⟩)))
 have hld : It.loaded ⟨3, 0, 0, 1⟩ = false := by
  unfold It.loaded
  rw [hm]
  rfl
 have hv : Wr.vok ⟨3, 0, 0, 1⟩ [] := ⟨hm, by decide, by rw [hld]; rfl⟩
 have hnb : nbl ⟨3, 0, 0, 1⟩ = 0 := by unfold nbl; rw [hld]; rfl
 have hw := aw_hw 6 (by decide)
 obtain ⟨l1, l2⟩ := aw_len 6
 have hn : (awk 6).its ≠ [] := fun e => by rw [e] at l1; simp at l1
 obtain ⟨y, e0, e1, e2, e3, e4, e5⟩ := add_emit (sp := false) hw hv (by decide) (by rw [l1]; simp) hn (by rw [aw_fit, l2, hnb]; decide)
 obtain ⟨d, f1, f2, f3, f4, _⟩ := hw.emit (by decide) hn
 rw [f1] at e0
 obtain rfl := (Prod.mk.inj e0).1
 have hat : ∀ y : Wr, y.at_ c8 ⟨3, 0, 0, 1⟩ = 0 := fun y => by
  unfold Wr.at_
  rw [hld]
  rfl
 rw [hat] at e4
 refine ⟨_, e4, ?_, ?_, ?_⟩
 ·show d.held.length = 8
  rw [f4, l2]
  rfl
 ·show behind (awk 6).p.o (awk 6).bl.length = 8
  rw [aw_fit, l2]
  rfl
 ·rfl
end Go.Kn
namespace Go.Proofs.YtgcfdjcpcclcjaaGreat
open Go Go.RowKit Go.Kn
/-- where all of it lies -/
structure Zp where
 p : PD
 r : RD
 W : Nat
 gb : Nat
 q : TD
 u : RT
 Z : Nat
 X : Nat
def Zp.box (k : Zp) : List Value := ZBx k.p k.r k.gb c8 k.q k.u (.pointer (some ⟨k.W, 0, none⟩)) (.pointer (some ⟨k.X, 0, none⟩))
def GE8 (gb : Nat) (W : World) : Prop := GeoAt W gb 8 8 24
def ZI (w0 w : World) (k : Zp) (z : Wr) (L : List (Nat × List Value)) (G : List Gs) (F : List (World → Prop)) : Prop :=
 k.q.n = 8 ∧ WrIn w0 w k.p k.r (Dk.new 202) k.W k.gb k.q z ((k.Z, k.box) :: L) G (GE8 k.gb :: F)
/-- numbers that are small -/
structure Bnd (z : Wr) : Prop where
 ok : z.t.Ok 8
 s : 0 ≤ z.p.s ∧ z.p.s ≤ 7
 o : 0 ≤ z.p.o ∧ z.p.o ≤ 23
 l : 1 ≤ z.p.l ∧ z.p.l ≤ 100000
 held : z.d.held.length ≤ 100000
 its : z.its.length ≤ 6
 bl : z.bl.length ≤ 6
 f64 : ∀ b ∈ z.bl, b.length = 64
theorem full_all {bl : List (List UInt8)} (h : full64 bl = true) : ∀ b ∈ bl, b.length = 64 := fun b hb => by
 have := List.all_eq_true.1 h b hb
 simpa using this
theorem SpI.bnd {o n m : Nat} {z : Wr} (h : SpI o n m z) (hm : m ≤ 300) : Bnd z := by
 have h1 := h.l
 have h2 := h.held
 have h3 := h.h.six
 have h4 := bl_le h.h
 exact { ok := h.ok, s := h.h.s, o := h.h.o, l := ⟨h.h.l, by omega⟩, held := by omega, its := h3, bl := by omega, f64 := full_all h.h.f64 }
theorem PI.bnd {tn : Nat} {pot : Int} {z : Wr} (h : PI tn pot z) (hp : pot ≤ 400) : Bnd z := by
 have h1 := h.l
 have h2 := h.held
 have h3 := h.h.six
 have h4 := bl_le h.h
 have h5 := h.tn7
 exact { ok := h.ok, s := h.h.s, o := h.h.o, l := ⟨h.h.l, by omega⟩, held := by omega, its := h3, bl := by omega, f64 := full_all h.h.f64 }
section
variable {w0 w w' : World} {k : Zp} {z : Wr} {L : List (Nat × List Value)} {G : List Gs} {F : List (World → Prop)}
theorem ZI.duo (h : ZI w0 w k z L G F) : ∃ L' G' F', Duo w0 w k.p k.r z.d (Dk.new 202) ⟨(k.W, L') :: k.q.L z.t ((k.Z, k.box) :: L), G', F'⟩ := by
 obtain ⟨_, A, c, B, m, sl, h⟩ := h
 exact ⟨_, _, _, h⟩
theorem ZI.only (h : ZI w0 w k z L G F) : Only [] w0 w := by
 obtain ⟨_, _, _, h⟩ := h.duo
 exact h.only
theorem ZI.keep0 (h : ZI w0 w k z L G F) (hO : Only [] w w') : ZI w0 w' k z L G F := by
 obtain ⟨hq, A, c, B, m, sl, h⟩ := h
 exact ⟨hq, A, c, B, m, sl, h.keep0 hO⟩
theorem ZI.drew (h : ZI w0 w k z L G F) : ZI w0 w.drew k z L G F := h.keep0 (Only.refl _ _).drew
theorem ZI.zbox (h : ZI w0 w k z L G F) : Kn.Own w k.Z k.box := by
 obtain ⟨_, _, _, h⟩ := h.duo
 exact h.boxi 4 rfl
theorem ZI.box (h : ZI w0 w k z L G F) {x : Nat × List Value} (hx : x ∈ L) : Kn.Own w x.1 x.2 := by
 obtain ⟨_, _, _, h⟩ := h.duo
 exact h.box (x := x) (by unfold TD.L; simp [hx])
theorem ZI.fact (h : ZI w0 w k z L G F) {f : World → Prop} (hf : f ∈ F) : f w := by
 obtain ⟨_, A, c, B, m, sl, h⟩ := h
 exact h.fact (by simp [hf])
theorem ZI.geo (h : ZI w0 w k z L G F) : GeoAt w k.gb c8.b c8.s c8.l := by
 obtain ⟨_, A, c, B, m, sl, h⟩ := h
 exact h.fact (f := GE8 k.gb) (by simp)
theorem ZI.newB (h : ZI w0 w k z L G F) (cs : Array Value) (t : TypeId) {b : Nat} (hb : w.heap.size = b) : ZI w0 (w.alloc (.cells cs t)) k z ((b, cs.toList) :: L) G F := by
 obtain ⟨hq, A, c, B, m, sl, h⟩ := h
 exact ⟨hq, A, c, B, m, sl, (h.newB cs t hb).permL (perm_any (fun c => by simp only [TD.L, List.map_cons, List.sum_cons]; omega))⟩
theorem ZI.ldrop {x : Nat × List Value} (h : ZI w0 w k z (x :: L) G F) : ZI w0 w k z L G F := by
 obtain ⟨hq, A, c, B, m, sl, h⟩ := h
 exact ⟨hq, A, c, B, m, sl, Duo.ldrop (x := x) (h.permL (perm_any (fun c => by simp only [TD.L, List.map_cons, List.sum_cons]; omega)))⟩
theorem ZI.head {b : Nat} {xs ys : List Value} (h : ZI w0 w k z ((b, xs) :: L) G F) (ho : Kn.Own w' b ys) (hO : Only [b] w w') : ZI w0 w' k z ((b, ys) :: L) G F := by
 obtain ⟨hq, A, c, B, m, sl, h⟩ := h
 exact ⟨hq, A, c, B, m, sl, h.call 5 rfl ho hO⟩
theorem ZI.addFc (h : ZI w0 w k z L G F) (hO : Only [] w w') {f : World → Prop} (hf : Fc w' (fun j => j < w.heap.size) f) : ZI w0 w' k z L G (f :: F) := by
 obtain ⟨hq, A, c, B, m, sl, h⟩ := h
 refine ⟨hq, A, c, B, m, sl, (h.addFc hO hf).subF fun g hg => ?_⟩
 simp only [List.mem_cons] at hg ⊢
 rcases hg with h | h | h | h <;> simp [h]
theorem ZI.subF (h : ZI w0 w k z L G F) {F' : List (World → Prop)} (hF : ∀ f ∈ F', f ∈ F) : ZI w0 w k z L G F' := by
 obtain ⟨hq, A, c, B, m, sl, h⟩ := h
 refine ⟨hq, A, c, B, m, sl, h.subF fun g hg => ?_⟩
 simp only [List.mem_cons] at hg ⊢
 rcases hg with h | h | h
 ·exact .inl h
 ·exact .inr (.inl h)
 ·exact .inr (.inr (hF _ h))
theorem ZI.fdrop {f : World → Prop} (h : ZI w0 w k z L G (f :: F)) : ZI w0 w k z L G F := h.subF fun g hg => List.mem_cons_of_mem _ hg
/-- a block that was filled -/
theorem ZI.addBy (h : ZI w0 w k z L G F) (hO : Only [] w w') {g : Nat} {b : List UInt8} (hg : w.heap.size ≤ g) (ho : Kn.Own w' g (bvs b)) (hl : b.length ≤ 64) : ZI w0 w' k z L G ((fun W => Bys W (some ⟨g, 0, none⟩) b.length b.length b) :: F) :=
 h.addFc hO (Row1.fc (Row1.of_Own ho (by rw [bvs_length]) (Nat.le_refl _) (Nat.le_trans hl (by decide))) (fun _ a ha => by injection ha with ha; subst ha; exact Nat.not_lt.2 hg))
theorem ZI.addFill (h : ZI w0 w k z L G F) (hO : Only [] w w') {g : Nat} {x : Int} (hg : w.heap.size ≤ g) (ho : Kn.Own w' g (bvs (fillB x))) : ZI w0 w' k z L G ((fun W => Bys W (some ⟨g, 0, none⟩) 64 64 (fillB x)) :: F) := by
 have := h.addBy hO hg ho (Nat.le_of_eq (fillB_length x))
 rwa [fillB_length] at this
theorem wr_new_nil (w : World) (gb T : Nat) (ps : Ps) : Calls Tryz.prog 107 #[.pointer none, .pointer (some ⟨gb, 0, none⟩), .pointer (some ⟨T, 0, none⟩), .agg #[.int .i64 ps.s, .int .i64 ps.o, .int .i64 ps.l, .int .i64 ps.p, .int .i64 ps.m]] w fun en w' => en = .returned (.pointer none) ∧ Only [] w w' := by
 go_enter Tryz.func107, Tryz.ntmps107
 go_wp2
 go_ret
 exact ⟨rfl, (Only.refl _ _).alloc _⟩
theorem waiting_nil (w : World) : Calls Tryz.prog 68 #[.pointer none] w fun en w' => en = .returned (.int .i64 0) ∧ w = w' := by
 go_enter Tryz.func68, Tryz.ntmps68
 go_wp2
 go_ret
 exact ⟨rfl, rfl⟩
theorem zi_new_none (h : ZI w0 w k z L G F) (ps : Ps) (hp : posMay 8 24 ps.s ps.o ps.l ps.p ps.m = false) : Calls Tryz.prog 107 #[.pointer (some ⟨k.p.D, 0, none⟩), .pointer (some ⟨k.gb, 0, none⟩), .pointer (some ⟨k.q.T, 0, none⟩), .agg #[.int .i64 ps.s, .int .i64 ps.o, .int .i64 ps.l, .int .i64 ps.p, .int .i64 ps.m]] w fun en w' => en = .returned (.pointer none) ∧ ZI w0 w' k z L G F := by
 obtain ⟨hq, A, c, B, m, sl, h⟩ := h
 have h1 := h.permL (L' := k.q.L z.t ((k.W, WB k.p.D k.gb k.q.T z.p (.slice A z.its.length c) (.slice B z.bl.length m)) :: (k.Z, k.box) :: L)) (perm_any (fun c => by simp only [TD.L, List.map_cons, List.sum_cons]; omega))
 refine (wr_new_any w0 w k.p k.r _ _ k.gb k.q z.t ps c8 _ _ _ h1 (by exact List.mem_cons_of_mem _ List.mem_cons_self) c8ok).mono ?_
 rintro en w1 hs
 rw [show posMay c8.s c8.l ps.s ps.o ps.l ps.p ps.m = false from hp] at hs
 obtain ⟨rfl, h2⟩ := hs
 exact ⟨rfl, hq, A, c, B, m, sl, h2.permL (perm_any (fun c => by simp only [TD.L, List.map_cons, List.sum_cons]; omega))⟩
theorem zi_add (h : ZI w0 w k z L G F) (hb : Bnd z) (ik ib ic iv : Int) {Ab : Option Addr} {n cb : Nat} {b : List UInt8} (sp : Bool) (hby : (fun W => Bys W Ab n cb b) ∈ F) (hn : n ≤ 100000) :
  Calls Tryz.prog 42 #[.pointer (some ⟨k.W, 0, none⟩), .agg #[.int .i64 ik, .int .i64 ib, .int .i64 ic, .int .i64 iv], .slice Ab n cb, .bool sp] w fun en w' => en = .returned (.tuple #[.int .i64 (z.add c8 ⟨ik, ib, ic, iv⟩ b sp).2.1, .int .i64 (z.add c8 ⟨ik, ib, ic, iv⟩ b sp).2.2]) ∧ ZI w0 w' k (z.add c8 ⟨ik, ib, ic, iv⟩ b sp).1 L G F := by
 obtain ⟨hq, h⟩ := h
 have hl := hb.l
 have hi := hb.its
 have hbl := hb.bl
 have hh := hb.held
 refine (wr_add_any w0 w k.p k.r _ k.W k.gb k.q z ik ib ic iv Ab n cb b sp c8 _ _ _ h (by exact List.mem_cons_self) (List.mem_cons_of_mem _ hby) c8ok (by rw [hq]; exact hb.ok) (by omega) hb.s (by have := hb.o; omega) (by omega) (by omega) (by omega) (by omega) hn).mono ?_
 rintro en w1 ⟨he, h1⟩
 exact ⟨he, hq, h1⟩
theorem zi_emit (h : ZI w0 w k z L G F) (hb : Bnd z) :
  Calls Tryz.prog 44 #[.pointer (some ⟨k.W, 0, none⟩)] w fun en w' => en = .returned (.int .i64 (z.emit c8).2) ∧ ZI w0 w' k (z.emit c8).1 L G F := by
 obtain ⟨hq, h⟩ := h
 have hl := hb.l
 have hh := hb.held
 refine (wr_emit_any w0 w k.p k.r _ k.W k.gb k.q z c8 _ _ _ h (by exact List.mem_cons_self) c8ok (by rw [hq]; exact hb.ok) (by omega) hb.s (by have := hb.o; omega) (by omega) (by omega)).mono ?_
 rintro en w1 ⟨he, h1⟩
 exact ⟨he, hq, h1⟩
theorem zi_read (h : ZI w0 w k z L G F) (hb : Bnd z) (a : Int) :
  Calls Tryz.prog 46 #[.pointer (some ⟨k.W, 0, none⟩), .int .i64 a] w (RdSays w (z.rd c8 a).1 (z.rd c8 a).2) := by
 obtain ⟨hq, h⟩ := h
 exact wr_read_any w0 w k.p k.r _ k.W k.gb k.q z a c8 _ _ _ h (by exact List.mem_cons_self) c8ok (by have := hb.o; omega) (by have := hb.bl; omega) hb.f64
theorem zi_pos (h : ZI w0 w k z L G F) :
  Calls Tryz.prog 72 #[.pointer (some ⟨k.W, 0, none⟩)] w fun e w' => e = .returned (.agg #[.int .i64 z.p.s, .int .i64 z.p.o, .int .i64 z.p.l, .int .i64 z.p.p, .int .i64 z.p.m]) ∧ Only [] w w' := by
 obtain ⟨hq, A, c, B, m, sl, h⟩ := h
 exact wr_pos_any w k.W k.p.D k.gb k.q.T z.p _ _ (h.boxi 0 rfl)
theorem zi_waiting (h : ZI w0 w k z L G F) :
  Calls Tryz.prog 68 #[.pointer (some ⟨k.W, 0, none⟩)] w fun e w' => e = .returned (.int .i64 (z.its.length : Int)) ∧ w = w' := by
 obtain ⟨hq, A, c, B, m, sl, h⟩ := h
 exact wr_waiting_any w k.W k.p.D k.gb k.q.T z.p A _ c _ (h.boxi 0 rfl)
theorem zi_held (h : ZI w0 w k z L G F) : Calls Tryz.prog 109 #[.pointer (some ⟨k.p.D, 0, none⟩)] w fun en w' => en = .returned (.int .i64 (z.d.held.length : Nat)) ∧ w = w' := by
 obtain ⟨_, _, _, h⟩ := h.duo
 exact duo_held h
theorem zi_add_eq (h : ZI w0 w k z L G F) (hb : Bnd z) {ik ib ic iv : Int} {Ab : Option Addr} {n cb : Nat} {b : List UInt8} {sp : Bool} {y : Wr} {a e : Int} (he : z.add c8 ⟨ik, ib, ic, iv⟩ b sp = (y, a, e)) (hby : (fun W => Bys W Ab n cb b) ∈ F) (hn : n ≤ 100000) :
  Calls Tryz.prog 42 #[.pointer (some ⟨k.W, 0, none⟩), .agg #[.int .i64 ik, .int .i64 ib, .int .i64 ic, .int .i64 iv], .slice Ab n cb, .bool sp] w fun en w' => en = .returned (.tuple #[.int .i64 a, .int .i64 e]) ∧ ZI w0 w' k y L G F := by
 refine (zi_add h hb ik ib ic iv sp hby hn).mono ?_
 rw [he]
 exact fun _ _ h => h
theorem zi_emit_eq (h : ZI w0 w k z L G F) (hb : Bnd z) {y : Wr} (he : z.emit c8 = (y, 0)) :
  Calls Tryz.prog 44 #[.pointer (some ⟨k.W, 0, none⟩)] w fun en w' => en = .returned (.int .i64 0) ∧ ZI w0 w' k y L G F := by
 refine (zi_emit h hb).mono ?_
 rw [he]
 exact fun _ _ h => h
theorem zi_read_eq (h : ZI w0 w k z L G F) (hb : Bnd z) {a e : Int} {b : List UInt8} (he : z.rd c8 a = (b, e)) :
  Calls Tryz.prog 46 #[.pointer (some ⟨k.W, 0, none⟩), .int .i64 a] w fun en w' => ∃ A n c, en = .returned (.tuple #[.slice A n c, .int .i64 e]) ∧ ZI w0 w' k z L G ((fun W => Bys W A n c b) :: F) := by
 refine (zi_read h hb a).mono ?_
 rw [he]
 rintro en w1 ⟨A, n, c, rfl, hf, hO⟩
 exact ⟨A, n, c, rfl, h.addFc hO hf⟩
theorem small15_any (w : World) : Calls Tryz.prog 66 #[] w fun e w' => e = .returned (.agg #[.int .i64 8, .int .i64 8, .int .i64 24]) ∧ Only [] w w' := by
 have hres : Tryz.f66.results = #[.cell 0 25] := by kernel_rfl
 have HRES := Lib.hid hres
 clear hres
 go_enter Tryz.func66, Tryz.ntmps66
 go_wp2
 refine bodyPost_ret (v := .agg #[.int .i64 8, .int .i64 8, .int .i64 24]) ?_ rfl ⟨rfl, ?_⟩
 ·simp only [results, HRES.out]
  go_simp
 ·exact (Only.refl _ _).alloc _
/-- law15.made on small -/
theorem made8_any' (w0 w : World) (ps : Ps) (A : Option Addr) (m c : Nat) (busy : List Int) (fr : Fr3) (h : Wc w0 w fr.L fr.G fr.F) (hb : (fun W => Ins W A m c busy) ∈ fr.F) (hm : m ≤ 1000) (hwf : (Lit.int .i64 ps.s).wf = true) (hbw : ∀ x ∈ busy, (Lit.int .i64 x).wf = true) (hp : posMay 8 24 ps.s ps.o ps.l ps.p ps.m = true) :
  Calls Tryz.prog 40 #[.agg #[.int .i64 8, .int .i64 8, .int .i64 24], .agg #[.int .i64 ps.s, .int .i64 ps.o, .int .i64 ps.l, .int .i64 ps.p, .int .i64 ps.m], .slice A m c] w fun en w' => ∃ (k : Zp) (L' : List (Nat × List Value)), en = .returned (.tuple #[.pointer (some ⟨k.Z, 0, none⟩), .bool true]) ∧ (∀ x ∈ fr.L, x ∈ L') ∧ ZI w0 w' k ⟨Dk.new 202, tbMade 8 c8 ps.s busy, ps, [], []⟩ L' fr.G fr.F := by
 refine (made_any w0 w c8 ps A m c busy fr 8 h c8ok rfl hb hm hwf hbw).mono ?_
 rintro en w1 ⟨p, r, gb, q, u, Z, rfl, hq, hu, hp1, hr1, hi⟩
 rw [show posMay c8.s c8.l ps.s ps.o ps.l ps.p ps.m = true from hp] at hi
 obtain ⟨W, X, hi⟩ := hi
 exact ⟨⟨p, r, W, gb, q, u, Z, X⟩, _, rfl, fun x hx => by unfold RT.L; simp [hx], hq, hi⟩
end
end Go.Proofs.YtgcfdjcpcclcjaaGreat
namespace Go.Proofs.YtgcfdjcpcclcjaaGreat
open Go Go.RowKit Go.Kn
theorem aw_bnd (i : Nat) (h : i ≤ 6) : Bnd (awk i) := by
 obtain ⟨l1, l2⟩ := aw_len i
 have hw := aw_hw i h
 exact { ok := tbMade_ok 8 c8 0 [], s := by show (0 : Int) ≤ 0 ∧ (0 : Int) ≤ 7; decide, o := by show (0 : Int) ≤ 0 ∧ (0 : Int) ≤ 23; decide, l := by show (1 : Int) ≤ 1 ∧ (1 : Int) ≤ 100000; decide, held := by show 0 ≤ 100000; decide, its := by omega, bl := by omega, f64 := full_all hw.f64 }
theorem field_pos15 (s o l p m : Int) (w : World) : (Instr.field 32 (.agg #[.int .i64 s, .int .i64 o, .int .i64 l, .int .i64 p, .int .i64 m]) 1).run Tryz.prog w = .ok (.int .i64 o) w := by kernel_rfl
set_option maxRecDepth 100000 in
set_option maxHeartbeats 16000000 in
theorem awake15_any (w : World) : Calls Tryz.prog 39 #[] w fun e w' => e = .returned (.bool true) ∧ Only [] w w' := by
 obtain ⟨y6, hy6, hyh, hyo, hyi⟩ := aw_mark
 have HY6 := Lib.hid hy6
 have HYH := Lib.hid hyh
 have HYO := Lib.hid hyo
 clear hy6 hyh hyo
 have HYB : Hid (Bnd (awk 6)) := Lib.hid (aw_bnd 6 (by decide))
 have H1 := Lib.hid (((Wc.start w).old (f := fun W => Ins W none 0 0 []) (fun W _ => Row1.nil W)).old (f := fun W => Bys W none 0 0 []) (fun W _ => Row1.nil W))
 go_enter Tryz.func39, Tryz.ntmps39
 go_wp2_with fail
 refine (small15_any _).mono ?_
 rintro en w1 ⟨rfl, hO⟩
 have H2 := Lib.hid (H1.out.keep0 hO)
 clear hO H1
 go_wp2_with fail
 refine (made8_any' w _ ⟨0, 0, 1, 0, 2⟩ none 0 0 [] ⟨[], [], [fun W => Bys W none 0 0 [], fun W => Ins W none 0 0 []]⟩ H2.out (by simp) (by decide) rfl (by simp) rfl).mono ?_
 rintro en w2 ⟨k, L', rfl, _, hd⟩
 have HX : Hid (ZI w w2 k (awk 0) L' [] [fun W => Bys W none 0 0 [], fun W => Ins W none 0 0 []]) := Lib.hid hd
 clear hd H2
 go_wp2_with fail
 have HY := Lib.hid HX.out.drew
 clear HX
 refine wp_region_held_drew (S := (fun w' => Kn.Own w' k.Z k.box)) (by kernel_rfl) HY.out.zbox (fun hSw0 => ?_)
 generalize w2.drew = wz at *
 refine Kn.takeS 0 ⟨some 22, _, _, _, _, _⟩ ?_
 refine Kn.takeS 1 ⟨some 23, _, _, _, _, _⟩ ?_
 refine Kn.takeS 2 ⟨some 24, _, _, _, _, _⟩ ?_
 refine Kn.takeS 3 ⟨some 25, _, _, _, _, _⟩ ?_
 refine Kn.takeS 4 ⟨some 26, _, _, _, _, _⟩ ?_
 refine Kn.takeS 5 ⟨some 27, _, _, _, _, _⟩ ?_
 refine Kn.takeS 6 ⟨some 28, _, _, _, _, _⟩ (v := (.pointer (some ⟨k.W, 0, none⟩))) (hy := fun w hSw => by
  have q0 := hSw.cellv 8
  go_simp) ?_
 refine Kn.takeS 7 ⟨some 29, _, _, _, _, _⟩ ?_
 refine Kn.takeS 8 ⟨some 30, _, _, _, _, _⟩ ?_
 refine Kn.takeS 9 ⟨some 31, _, _, _, _, _⟩ ?_
 refine Kn.takeS 10 ⟨some 32, _, _, _, _, _⟩ ?_
 refine Kn.takeS 11 ⟨some 33, _, _, _, _, _⟩ ?_
 refine Kn.takeS 12 ⟨some 34, _, _, _, _, _⟩ ?_
 refine Kn.takeS 13 ⟨some 35, _, _, _, _, _⟩ (v := (.pointer (some ⟨k.gb, 0, none⟩))) (hy := fun w hSw => by
  have q0 := hSw.cellv 2
  go_simp) ?_
 refine Kn.takeS 14 ⟨some 36, _, _, _, _, _⟩ ?_
 refine Kn.takeS 15 ⟨some 37, _, _, _, _, _⟩ ?_
 refine Kn.takeS 16 ⟨some 38, _, _, _, _, _⟩ ?_
 refine Kn.takeS 17 ⟨some 39, _, _, _, _, _⟩ (v := (.pointer (some ⟨k.q.T, 0, none⟩))) (hy := fun w hSw => by
  have q0 := hSw.cellv 6
  go_simp) ?_
 refine Kn.takeS 18 ⟨some 40, _, _, _, _, _⟩ ?_
 refine Kn.takeR 19 ⟨some 41, _, _, _, _, _⟩ fun K hK => ?_
 go_simp
 refine (wr_new_nil _ k.gb k.q.T ⟨0, 0, 1, 0, 2⟩).mono ?_
 rintro en wn ⟨rfl, hO⟩
 have HYn := Lib.hid (HY.out.keep0 hO)
 clear hO
 clear HY
 refine hK.out _ _ HYn.out.zbox (fun hSn => ?_)
 clear hK K hSw0
 have hSw0 := hSn
 clear hSn
 refine Kn.takeS 20 ⟨some 42, _, _, _, _, _⟩ ?_
 refine Kn.takeS 21 ⟨some 43, _, _, _, _, _⟩ ?_
 refine Kn.takeS 22 ⟨some 44, _, _, _, _, _⟩ ?_
 refine Kn.takeS 23 ⟨some 45, _, _, _, _, _⟩ ?_
 refine Kn.takeS 24 ⟨some 46, _, _, _, _, _⟩ ?_
 refine Kn.takeS 25 ⟨some 47, _, _, _, _, _⟩ ?_
 refine Kn.takeS 26 ⟨some 48, _, _, _, _, _⟩ (v := (.pointer (some ⟨k.p.D, 0, none⟩))) (hy := fun w hSw => by
  have q0 := hSw.cellv 0
  go_simp) ?_
 refine Kn.takeS 27 ⟨some 49, _, _, _, _, _⟩ ?_
 refine Kn.takeS 28 ⟨some 50, _, _, _, _, _⟩ ?_
 refine Kn.takeS 29 ⟨some 51, _, _, _, _, _⟩ ?_
 refine Kn.takeS 30 ⟨some 52, _, _, _, _, _⟩ (v := (.pointer (some ⟨k.gb, 0, none⟩))) (hy := fun w hSw => by
  have q0 := hSw.cellv 2
  go_simp) ?_
 refine Kn.takeS 31 ⟨some 53, _, _, _, _, _⟩ ?_
 refine Kn.takeS 32 ⟨some 54, _, _, _, _, _⟩ ?_
 refine Kn.takeS 33 ⟨some 55, _, _, _, _, _⟩ ?_
 refine Kn.takeS 34 ⟨some 56, _, _, _, _, _⟩ (v := (.pointer (some ⟨k.q.T, 0, none⟩))) (hy := fun w hSw => by
  have q0 := hSw.cellv 6
  go_simp) ?_
 refine Kn.takeS 35 ⟨some 57, _, _, _, _, _⟩ ?_
 refine Kn.takeR 36 ⟨some 58, _, _, _, _, _⟩ fun K hK => ?_
 go_simp
 refine (zi_new_none HYn.out ⟨0, 0, 0, 0, 0⟩ rfl).mono ?_
 rintro en wm ⟨rfl, hd⟩
 have HYnn := Lib.hid hd
 clear hd
 clear HYn
 refine hK.out _ _ HYnn.out.zbox (fun hSn => ?_)
 clear hK K hSw0
 have hSw0 := hSn
 clear hSn
 refine Kn.takeS 37 ⟨some 59, _, _, _, _, _⟩ ?_
 refine Kn.takeS 38 ⟨some 60, _, _, _, _, _⟩ ?_
 refine wpAnyH_done (by kernel_rfl) ?_ _
 clear hSw0
 go_wp2_with fail
 go_loopg [3, 4] 6 (fun rr t3 t4 wr => ∃ (j : Nat) (a : Int), j + rr = 6 ∧ t4 = .int .i64 (j : Int) ∧ t3 = .int .i64 a ∧ (j = 6 → a = 17) ∧ ZI w wr k (awk j) L' [] [fun W => Bys W none 0 0 [], fun W => Ins W none 0 0 []])
 case atStart => exact ⟨0, 0, by omega, rfl, rfl, by omega, HYnn.out⟩
 obtain ⟨j, a, hj, rfl, rfl, ha, hd⟩ := hrel
 have HR := Lib.hid hd
 have HAA := Lib.hid ha
 clear hd ha HYnn
 by_cases hlt : j < 6
 ·have hlt2 : (j : Int) < 6 := by omega
  have HA := Lib.hid (aw_add j hlt)
  have HB := Lib.hid (aw_bnd j (by omega))
  have HJW : Hid ((Lit.int .i64 (j : Int)).wf = true) := Lib.hid (by simp [Lit.wf, IntKind.min, IntKind.max, IntKind.signed, IntKind.bits]; omega)
  go_wp2_with fail
  have HY := Lib.hid HR.out.drew
  clear HR
  refine wp_region_held_drew (S := (fun w' => Kn.Own w' k.Z k.box)) (by kernel_rfl) HY.out.zbox (fun hSw0 => ?_)
  generalize wr.drew = wz at *
  refine Kn.takeS 0 ⟨some 66, _, _, _, _, _⟩ ?_
  refine Kn.takeS 1 ⟨some 67, _, _, _, _, _⟩ ?_
  refine Kn.takeS 2 ⟨some 68, _, _, _, _, _⟩ ?_
  refine Kn.takeS 3 ⟨some 69, _, _, _, _, _⟩ (v := (.pointer (some ⟨k.W, 0, none⟩))) (hy := fun w hSw => by
   have q0 := hSw.cellv 8
   go_simp) ?_
  refine Kn.takeS 4 ⟨some 70, _, _, _, _, _⟩ ?_
  refine Kn.takeS 5 ⟨some 71, _, _, _, _, _⟩ ?_
  refine Kn.takeS 6 ⟨some 72, _, _, _, _, _⟩ ?_
  refine Kn.takeR 7 ⟨some 73, _, _, _, _, _⟩ fun K hK => ?_
  go_simp
  refine (fill_any (j : Int) _ HJW.out).mono ?_
  rintro en wf ⟨g, rfl, hg, hown, hO⟩
  have HYf := Lib.hid (HY.out.addFill hO hg hown)
  clear hg hown hO
  clear HY
  refine hK.out _ _ HYf.out.zbox (fun hSn => ?_)
  clear hK K hSw0
  have hSw0 := hSn
  clear hSn
  refine Kn.takeR 8 ⟨some 74, _, _, _, _, _⟩ fun K hK => ?_
  go_simp
  refine (zi_add_eq HYf.out HB.out HA.out List.mem_cons_self (by decide)).mono ?_
  rintro en wa ⟨rfl, hd⟩
  have HYfa := Lib.hid hd.fdrop
  clear hd
  clear HYf
  refine hK.out _ _ HYfa.out.zbox (fun hSn => ?_)
  clear hK K hSw0
  have hSw0 := hSn
  clear hSn
  refine Kn.takeS 9 ⟨some 65, _, _, _, _, _⟩ ?_
  refine Kn.takeS 10 ⟨some 75, _, _, _, _, _⟩ ?_
  refine Kn.takeS 11 ⟨some 76, _, _, _, _, _⟩ ?_
  refine Kn.takeS 12 ⟨some 5, _, _, _, _, _⟩ ?_
  refine Kn.takeS 13 ⟨some 6, _, _, _, _, _⟩ ?_
  refine wpAnyH_done (by kernel_rfl) ?_ _
  clear hSw0
  go_wp2
  go_roundg (gk - 1)
  case measure => omega
  case rel => exact ⟨j + 1, 12 + (j : Int), by omega, by go_num, rfl, by omega, HYfa.out⟩
 ·obtain rfl : j = 6 := by omega
  obtain rfl : a = 17 := HAA.out rfl
  go_wp2_with fail
  have HY := Lib.hid HR.out.drew
  clear HR
  refine wp_region_held_drew (S := (fun w' => Kn.Own w' k.Z k.box)) (by kernel_rfl) HY.out.zbox (fun hSw0 => ?_)
  generalize wr.drew = wz at *
  refine Kn.takeS 0 ⟨some 80, _, _, _, _, _⟩ ?_
  refine Kn.takeS 1 ⟨some 81, _, _, _, _, _⟩ ?_
  refine Kn.takeS 2 ⟨some 82, _, _, _, _, _⟩ ?_
  refine Kn.takeS 3 ⟨some 83, _, _, _, _, _⟩ (v := (.pointer (some ⟨k.W, 0, none⟩))) (hy := fun w hSw => by
   have q0 := hSw.cellv 8
   go_simp) ?_
  refine Kn.takeS 5 ⟨some 85, _, _, _, _, _⟩ ?_
  refine Kn.takeS 6 ⟨some 86, _, _, _, _, _⟩ ?_
  refine Kn.takeS 7 ⟨some 87, _, _, _, _, _⟩ ?_
  refine Kn.takeS 8 ⟨some 88, _, _, _, _, _⟩ (v := (.pointer (some ⟨k.p.D, 0, none⟩))) (hy := fun w hSw => by
   have q0 := hSw.cellv 0
   go_simp) ?_
  refine Kn.takeR 4 ⟨some 84, _, _, _, _, _⟩ fun K hK => ?_
  go_simp
  refine (zi_waiting HY.out).mono ?_
  rintro en wn ⟨rfl, rfl⟩
  refine hK.out _ _ HY.out.zbox (fun hSn => ?_)
  clear hK K hSw0
  have hSw0 := hSn
  clear hSn
  refine Kn.takeR 9 ⟨some 89, _, _, _, _, _⟩ fun K hK => ?_
  go_simp
  refine (zi_held HY.out).mono ?_
  rintro en wn ⟨rfl, rfl⟩
  refine hK.out _ _ HY.out.zbox (fun hSn => ?_)
  clear hK K hSw0
  have hSw0 := hSn
  clear hSn
  refine Kn.takeS 10 ⟨some 7, _, _, _, _, _⟩ ?_
  refine Kn.takeS 11 ⟨some 8, _, _, _, _, _⟩ ?_
  refine wpAnyH_done (by kernel_rfl) ?_ _
  clear hSw0
  have c0 := HY.out.zbox.cellv 8
  go_wp2_with fail
  refine (zi_read_eq HY.out HYB.out aw_read).mono ?_
  rintro en w3 ⟨A, n, c, rfl, hd⟩
  have H3 := Lib.hid hd
  clear hd HY c0
  have c0 := H3.out.zbox.cellv 8
  go_wp2_with fail
  refine (zi_add_eq H3.out HYB.out aw_next (List.mem_cons_of_mem _ List.mem_cons_self) (by decide)).mono ?_
  rintro en w4 ⟨rfl, hd⟩
  have H4 := Lib.hid hd
  clear hd H3 c0
  have c0 := H4.out.zbox.cellv 8
  go_wp2_with fail
  refine (zi_add_eq H4.out HYB.out HY6.out (List.mem_cons_of_mem _ List.mem_cons_self) (by decide)).mono ?_
  rintro en w5 ⟨rfl, hd⟩
  have H5 := Lib.hid hd
  clear hd H4 c0
  go_wp2_with fail
  refine (fill_any 5 _ (by decide)).mono ?_
  rintro en w6 ⟨g, rfl, hg, hown, hO⟩
  have H6 := Lib.hid (H5.out.addFill hO hg hown)
  clear hg hown hO H5
  go_wp2_with fail
  refine (alike_bytes_any A n c (fillB 5) (some ⟨g, 0, none⟩) 64 64 (fillB 5) _ (H6.out.fact (f := (fun W => Bys W A n c (fillB 5))) (by simp)) (H6.out.fact (f := (fun W => Bys W (some ⟨g, 0, none⟩) 64 64 (fillB 5))) (by simp))).mono ?_
  rintro en w7 ⟨rfl, nk, rfl⟩
  rw [decide_eq_true (rfl : fillB 5 = fillB 5)]
  have H7 := Lib.hid (H6.out.keep0 ((Only.refl _ _).drewN nk))
  clear H6
  have c0 := H7.out.zbox.cellv 2
  go_wp2_with fail
  refine (geom_seg_any k.gb c8 0 _ H7.out.geo c8ok).mono ?_
  rintro en w8 ⟨rfl, hO⟩
  have H8 := Lib.hid (H7.out.keep0 hO)
  clear hO H7 c0
  have hat : c8.at_ 0 = 10 := rfl
  rw [hat]
  have c0 := H8.out.zbox.cellv 0
  have c8 := H8.out.zbox.cellv 8
  go_wp2_with fail
  refine (zi_held H8.out).mono ?_
  rintro en w9 ⟨rfl, rfl⟩
  rw [HYH.out]
  go_wp2_with fail
  refine (zi_pos H8.out).mono ?_
  rw [HYO.out]
  rintro en w9 ⟨rfl, hO⟩
  have H9 := Lib.hid (H8.out.keep0 hO)
  clear hO H8 c0 c8
  have fp := field_pos15 y6.p.s 8 y6.p.l y6.p.p y6.p.m
  go_wp2_with fail
  refine (waiting_nil _).mono ?_
  rintro en w10 ⟨rfl, rfl⟩
  go_wp2
  go_ret
  exact ⟨rfl, H9.out.only⟩
end Go.Proofs.YtgcfdjcpcclcjaaGreat
namespace Go.Kn
open Go Go.RowKit
/-- law15.kinds: the item, its block -/
def kdI (l i : Int) : It := if l % 4 = 0 then ⟨2, i % 8, 1, 0⟩ else if l % 4 = 1 then ⟨3, 0, 0, i + 1⟩ else if l % 4 = 2 then ⟨5, i % 8, 0, 0⟩ else ⟨1, i % 8, 0, 0⟩
def kdB (l i : Int) : List UInt8 := if l % 4 = 0 then [] else if l % 4 = 1 then [] else fillB i
theorem kd_ok {l i : Int} (hi : 0 ≤ i ∧ i ≤ 1000) : Wr.vok (kdI l i) (kdB l i) ∧ ((kdI l i).loaded = true ∧ kdB l i = fillB i ∨ (kdI l i).loaded = false ∧ kdB l i = []) := by
 have h8 : 0 ≤ i % 8 ∧ i % 8 ≤ 7 := by omega
 unfold kdI kdB
 by_cases h0 : l % 4 = 0
 ·rw [if_pos h0, if_pos h0]
  have hm : It.may ⟨2, i % 8, 1, 0⟩ = true := (may_k 2 _ 1 0).2 (.inr (.inl ⟨.inl rfl, by omega, by omega, rfl⟩))
  have hl : It.loaded ⟨2, i % 8, 1, 0⟩ = false := by unfold It.loaded; rw [hm]; rfl
  exact ⟨⟨hm, by show (2 : Int) ≠ 7; decide, by rw [hl]; rfl⟩, .inr ⟨hl, rfl⟩⟩
 ·rw [if_neg h0, if_neg h0]
  by_cases h1 : l % 4 = 1
  ·rw [if_pos h1, if_pos h1]
   have hm : It.may ⟨3, 0, 0, i + 1⟩ = true := (may_k 3 0 0 _).2 (.inr (.inr (.inl ⟨rfl, rfl, rfl, by omega, by omega⟩)))
   have hl : It.loaded ⟨3, 0, 0, i + 1⟩ = false := by unfold It.loaded; rw [hm]; rfl
   exact ⟨⟨hm, by show (3 : Int) ≠ 7; decide, by rw [hl]; rfl⟩, .inr ⟨hl, rfl⟩⟩
  ·rw [if_neg h1, if_neg h1]
   by_cases h2 : l % 4 = 2
   ·rw [if_pos h2]
    have hm : It.may ⟨5, i % 8, 0, 0⟩ = true := (may_k 5 _ 0 0).2 (.inl ⟨.inr rfl, by omega, rfl, rfl⟩)
    have hl : It.loaded ⟨5, i % 8, 0, 0⟩ = true := by unfold It.loaded; rw [hm]; rfl
    exact ⟨⟨hm, by show (5 : Int) ≠ 7; decide, by rw [hl]; exact fillB_length i⟩, .inl ⟨hl, rfl⟩⟩
   ·rw [if_neg h2]
    have hm : It.may ⟨1, i % 8, 0, 0⟩ = true := (may_k 1 _ 0 0).2 (.inl ⟨.inl rfl, by omega, rfl, rfl⟩)
    have hl : It.loaded ⟨1, i % 8, 0, 0⟩ = true := by unfold It.loaded; rw [hm]; rfl
    exact ⟨⟨hm, by show (1 : Int) ≠ 7; decide, by rw [hl]; exact fillB_length i⟩, .inl ⟨hl, rfl⟩⟩
end Go.Kn
namespace Go.Proofs.YtgcfdjcpcclcjaaGreat
open Go Go.RowKit Go.Kn
def KdSays (w : World) (l i : Int) (e : Ending) (w' : World) : Prop := ∃ (A : Option Addr) (n c : Nat), e = .returned (.tuple #[.agg #[.int .i64 (kdI l i).k, .int .i64 (kdI l i).b, .int .i64 (kdI l i).c, .int .i64 (kdI l i).v], .slice A n c]) ∧ n ≤ 64 ∧ n = (kdB l i).length ∧ Fc w' (fun k => k < w.heap.size) (fun W => Bys W A n c (kdB l i)) ∧ Only [] w w'
theorem fill_fc {w w2 w3 : World} {g s : Nat} {x : Int} (hs : w.heap.size = s) (hg : s + 1 ≤ g) (ho : Kn.Own w2 g (bvs (fillB x))) (hO : Only [s] w2 w3) : Fc w3 (fun j => j < w.heap.size) (fun W => Bys W (some ⟨g, 0, none⟩) 64 64 (fillB x)) := fun W hW => by
 have h2 : Fc w2 (fun j => j < s + 1) (fun W => Bys W (some ⟨g, 0, none⟩) 64 64 (fillB x)) := Row1.fc (Row1.of_Own ho (by rw [bvs_length, fillB_length]) (Nat.le_refl _) (by decide)) (fun _ a ha => by injection ha with ha; subst ha; exact Nat.not_lt.2 hg)
 exact h2 W fun k o hk h hc => hW k o (by omega) ((hO.block k (lt_of_obj h) (by simp; omega)).trans h) hc
set_option maxRecDepth 100000 in
set_option maxHeartbeats 4000000 in
theorem kinds_any (l i : Int) (w : World) (hl : (Lit.int .i64 l).wf = true) (hi : 0 ≤ i ∧ i ≤ 1000) : Calls Tryz.prog 67 #[.int .i64 l, .int .i64 i] w (KdSays w l i) := by
 have hres : Tryz.f67.results = #[.cell 4 63, .tmp 5] := by kernel_rfl
 have HRES := Lib.hid hres
 have hiw : (Lit.int .i64 i).wf = true := by simp [Lit.wf, IntKind.min, IntKind.max, IntKind.signed, IntKind.bits]; omega
 have HIW := Lib.hid hiw
 have HLW := Lib.hid hl
 have H0 := Lib.hid ((Wc.start w).newB #[.int .i64 0, .int .i64 0, .int .i64 0, .int .i64 0] 63 (b := w.heap.size) rfl)
 have hi8 : 0 ≤ i % 8 ∧ i % 8 ≤ 7 := by omega
 obtain ⟨hi1, hi2⟩ := hi
 obtain ⟨m, hm⟩ : ∃ m, l % 4 = m := ⟨_, rfl⟩
 have HM := Lib.hid hm
 have ht : i.tmod 8 = i % 8 := Int.tmod_eq_emod_of_nonneg hi1
 clear hres hiw hl hi8
 go_enter Tryz.func67, Tryz.ntmps67
 go_wp2_with fail
 refine (round_any l 4 _ HLW.out (by decide) (by decide)).mono ?_
 rintro en w1 ⟨rfl, rfl⟩
 rw [hm]
 clear hm
 by_cases h0 : m = 0
 ·go_wp2
  refine bodyPost_ret (v := .tuple #[.agg #[.int .i64 2, .int .i64 (i % 8), .int .i64 1, .int .i64 0], .slice none 0 0]) ?_ rfl ?_
  ·simp only [results, HRES.out]
   go_simp
  ·unfold KdSays kdI kdB
   rw [if_pos (HM.out.trans h0), if_pos (HM.out.trans h0)]
   exact ⟨none, 0, 0, rfl, by decide, rfl, fun W _ => Row1.nil W, (Only.refl _ _).alloc _⟩
 ·by_cases h1 : m = 1
  ·go_wp2
   refine bodyPost_ret (v := .tuple #[.agg #[.int .i64 3, .int .i64 0, .int .i64 0, .int .i64 (i + 1)], .slice none 0 0]) ?_ rfl ?_
   ·simp only [results, HRES.out]
    go_simp
   ·unfold KdSays kdI kdB
    rw [if_neg (fun e => h0 (HM.out.symm.trans e)), if_neg (fun e => h0 (HM.out.symm.trans e)), if_pos (HM.out.trans h1), if_pos (HM.out.trans h1)]
    exact ⟨none, 0, 0, rfl, by decide, rfl, fun W _ => Row1.nil W, (Only.refl _ _).alloc _⟩
  ·by_cases h2 : m = 2
   ·go_wp2_with fail
    refine (fill_any i _ HIW.out).mono ?_
    rintro en w2 ⟨g, rfl, hg, hown, hO⟩
    have hsz : w.heap.size + 1 ≤ g := by have := hg; simpa using this
    have HGG := Lib.hid hsz
    have HOW := Lib.hid hown
    have H1 := Lib.hid (H0.out.keep0 hO)
    have b1 := H1.out.boxi 0 rfl
    have lt := b1.lt
    obtain ⟨e0, e1, e2, e3⟩ := own4 b1
    have z0 := b1.frozen 0
    have z1 := b1.frozen 1
    have z2 := b1.frozen 2
    have z3 := b1.frozen 3
    have HS := Lib.hid ((((H1.out.put 0 rfl 0 (.int .i64 5)).put 0 rfl 1 (.int .i64 (i % 8))).put 0 rfl 2 (.int .i64 0)).put 0 rfl 3 (.int .i64 0))
    clear hg hown hO b1 H0 H1 hsz
    go_wp2
    refine bodyPost_ret (v := .tuple #[.agg #[.int .i64 5, .int .i64 (i % 8), .int .i64 0, .int .i64 0], .slice (some ⟨g, 0, none⟩) 64 64]) ?_ rfl ?_
    ·have hb := HS.out.boxi 0 rfl
     obtain ⟨e0, e1, e2, e3⟩ := own4 hb
     simp only [results, HRES.out]
     go_simp
    ·unfold KdSays kdI kdB
     rw [if_neg (fun e => h0 (HM.out.symm.trans e)), if_neg (fun e => h0 (HM.out.symm.trans e)), if_neg (fun e => h1 (HM.out.symm.trans e)), if_neg (fun e => h1 (HM.out.symm.trans e)), if_pos (HM.out.trans h2)]
     exact ⟨some ⟨g, 0, none⟩, 64, 64, rfl, by decide, (fillB_length i).symm, fill_fc rfl HGG.out HOW.out ((((Only.refl [w.heap.size] _).set (.inl (List.mem_singleton.2 rfl)) _).set (.inl (List.mem_singleton.2 rfl)) _).set (.inl (List.mem_singleton.2 rfl)) _ |>.set (.inl (List.mem_singleton.2 rfl)) _), HS.out.only⟩
   ·go_wp2_with fail
    refine (fill_any i _ HIW.out).mono ?_
    rintro en w2 ⟨g, rfl, hg, hown, hO⟩
    have hsz : w.heap.size + 1 ≤ g := by have := hg; simpa using this
    have HGG := Lib.hid hsz
    have HOW := Lib.hid hown
    have H1 := Lib.hid (H0.out.keep0 hO)
    have b1 := H1.out.boxi 0 rfl
    have lt := b1.lt
    obtain ⟨e0, e1, e2, e3⟩ := own4 b1
    have z0 := b1.frozen 0
    have z1 := b1.frozen 1
    have z2 := b1.frozen 2
    have z3 := b1.frozen 3
    have HS := Lib.hid ((((H1.out.put 0 rfl 0 (.int .i64 1)).put 0 rfl 1 (.int .i64 (i % 8))).put 0 rfl 2 (.int .i64 0)).put 0 rfl 3 (.int .i64 0))
    clear hg hown hO b1 H0 H1 hsz
    go_wp2
    refine bodyPost_ret (v := .tuple #[.agg #[.int .i64 1, .int .i64 (i % 8), .int .i64 0, .int .i64 0], .slice (some ⟨g, 0, none⟩) 64 64]) ?_ rfl ?_
    ·have hb := HS.out.boxi 0 rfl
     obtain ⟨e0, e1, e2, e3⟩ := own4 hb
     simp only [results, HRES.out]
     go_simp
    ·unfold KdSays kdI kdB
     rw [if_neg (fun e => h0 (HM.out.symm.trans e)), if_neg (fun e => h0 (HM.out.symm.trans e)), if_neg (fun e => h1 (HM.out.symm.trans e)), if_neg (fun e => h1 (HM.out.symm.trans e)), if_neg (fun e => h2 (HM.out.symm.trans e))]
     exact ⟨some ⟨g, 0, none⟩, 64, 64, rfl, by decide, (fillB_length i).symm, fill_fc rfl HGG.out HOW.out ((((Only.refl [w.heap.size] _).set (.inl (List.mem_singleton.2 rfl)) _).set (.inl (List.mem_singleton.2 rfl)) _).set (.inl (List.mem_singleton.2 rfl)) _ |>.set (.inl (List.mem_singleton.2 rfl)) _), HS.out.only⟩
theorem kinds_eq {l i : Int} {w : World} {ik ib ic iv : Int} {b : List UInt8} (hl : (Lit.int .i64 l).wf = true) (hi : 0 ≤ i ∧ i ≤ 1000) (h1 : kdI l i = ⟨ik, ib, ic, iv⟩) (h2 : kdB l i = b) : Calls Tryz.prog 67 #[.int .i64 l, .int .i64 i] w fun e w' => ∃ (A : Option Addr) (n c : Nat), e = .returned (.tuple #[.agg #[.int .i64 ik, .int .i64 ib, .int .i64 ic, .int .i64 iv], .slice A n c]) ∧ n ≤ 64 ∧ n = b.length ∧ Fc w' (fun k => k < w.heap.size) (fun W => Bys W A n c b) ∧ Only [] w w' := by
 refine (kinds_any l i w hl hi).mono ?_
 unfold KdSays
 rw [h1, h2]
 exact fun _ _ h => h
section
variable {w0 w w' : World} {k : Zp} {z : Wr} {L : List (Nat × List Value)} {G : List Gs} {F : List (World → Prop)}
theorem ZI.alloc (h : ZI w0 w k z L G F) (o : Obj) : ZI w0 (w.alloc o) k z L G F := h.keep0 ((Only.refl _ _).alloc o)
theorem Duo.permG {p : PD} {r : RD} {d e : Dk} {G' : List Gs} (h : Duo w0 w p r d e ⟨L, G, F⟩) (hG : G.Perm G') : Duo w0 w p r d e ⟨L, G', F⟩ := by
 obtain ⟨L0, G0, F0, hw, back⟩ := h.fr
 exact back w ⟨L, G', F⟩ (hw.perm (List.Perm.refl _) (hG.append_right G0))
theorem ZI.gnew (h : ZI w0 w k z L G F) (t sz : Nat) : ZI w0 w k z L (⟨t, sz, .slice none 0 0, 0, []⟩ :: G) F := by
 obtain ⟨hq, A, c, B, m, sl, h⟩ := h
 exact ⟨hq, A, c, B, m, sl, Duo.permG (h.gnew t sz) (List.perm_middle (l₁ := [_, _])).symm⟩
theorem ZI.gi (h : ZI w0 w k z L G F) (i : Nat) {x : Gs} (hi : G[i]? = some x) : w.ownsRow w0.heap.size x.e x.sz x.v x.n x.xs := by
 obtain ⟨hq, A, c, B, m, sl, h⟩ := h
 exact h.gi (i + 2) (x := x) (by simpa using hi)
theorem ZI.gform (h : ZI w0 w k z L G F) (i : Nat) {t sz n : Nat} {v : Value} {xs : List Value} (hi : G[i]? = some ⟨t, sz, v, n, xs⟩) : ∃ A c, v = .slice A n c := by
 obtain ⟨hq, A, c, B, m, sl, h⟩ := h
 exact h.gform (i + 2) (by simpa using hi)
theorem ZI.gapp (h : ZI w0 w k z L G F) (i : Nat) {x : Gs} (hi : G[i]? = some x) {v' : Value} {n' : Nat} {ys : List Value} (ho : w'.ownsRow w0.heap.size x.e x.sz v' n' ys) (hg : w.grownBy w' x.v.ownBlock) (hat : v'.ownBlock = x.v.ownBlock ∨ v'.ownBlock = some w.heap.size) : ZI w0 w' k z L (G.set i ⟨x.e, x.sz, v', n', ys⟩) F := by
 obtain ⟨hq, A, c, B, m, sl, h⟩ := h
 exact ⟨hq, A, c, B, m, sl, h.gapp (i + 2) (x := x) (by simpa using hi) ho hg hat⟩
theorem ZI.ins (h : ZI w0 w k z L G F) (i : Nat) {t n c : Nat} {A : Option Addr} {l : List Int} (hi : G[i]? = some ⟨t, 1, .slice A n c, n, ivs l⟩) : Ins w A n c l := (Row1.of_owns (h.gi i hi)).1
end
end Go.Proofs.YtgcfdjcpcclcjaaGreat
namespace Go.Proofs.YtgcfdjcpcclcjaaGreat
open Go Go.RowKit Go.Kn Go.Shelf
attribute [local go_sem] Oper.semAt_some
theorem infoRc15 : (Tryz.prog.info? 56).map (fun i => (i.zero, i.size, i.bytes)) = some (some (.agg #[.int .i64 0, .int .i64 0, .int .i64 0, .slice none 0 0, .slice none 0 0]), 5, 72) := by kernel_rfl
theorem perm_w3 (a b c : Nat × List Value) (L : List (Nat × List Value)) : (a :: b :: c :: L).Perm (c :: b :: (L ++ [a])) := (List.perm_append_comm (l₁ := [a]) (l₂ := b :: c :: L)).trans (List.Perm.swap c b _)
def rr1 (x : Fnd) : List Value := (x.r.cells x.s x.t).toList
def rrV (xs : List Fnd) : List Value := xs.flatMap rr1
theorem rrV_snoc (xs : List Fnd) (x : Fnd) : rrV (xs ++ [x]) = rrV xs ++ rr1 x := by simp [rrV]
theorem rr1_one (x : Fnd) : ∀ u ∈ rr1 x, u.oneCell' = true := by
 intro u hu
 simp only [rr1, Rc.cells, slv, List.mem_cons, List.mem_nil_iff, or_false] at hu
 rcases hu with rfl | rfl | rfl | rfl | rfl <;> rfl
def WkSays15 (w0 wb : World) (C D gb : Nat) (p : Ps) (L : List (Nat × List Value)) (G : List Gs) (F : List (World → Prop)) (x : List (Ps × Rc) × Ps × Int) (en : Ending) (w' : World) : Prop :=
 ∃ (xs : List Fnd) (A : Option Addr) (c : Nat) (fs : List (World → Prop)), en = .returned (.slice A xs.length c) ∧ xs.map Fnd.pr = x.1 ∧ (∀ y ∈ xs, y.fct ∈ fs) ∧
  Wk w0 wb w' ((C, CB D gb p x.2.1 x.2.2) :: L) (⟨56, 5, .slice A xs.length c, xs.length, rrV xs⟩ :: G) (fs ++ F)
def WcC15 (b6 : Nat) (A : Option Addr) (c : Nat) (pre : List Fnd) : Fr3 := ⟨[(b6, [.slice A pre.length c])], [⟨56, 5, .slice A pre.length c, pre.length, rrV pre⟩], []⟩
def WcJ15 (wb : World) (b6 : Nat) : Option Code → List Fnd → Fr3 → World → Prop
 | none, pre, c, W => ∃ (A : Option Addr) (k : Nat), c = WcC15 b6 A k pre ∧ Kb wb.heap.size wb W
 | some _, _, _, _ => False
def WcM15 (wb : World) (C b6 bS : Nat) (pre : List Fnd) (x : Fnd) (a : Act) (c : Fr3) (W : World) : Prop :=
 ∃ (A : Option Addr) (k bR : Nat), c = ⟨(bR, (x.r.cells x.s x.t).toList) :: (WcC15 b6 A k pre).L, (WcC15 b6 A k pre).G, []⟩ ∧
  a = { tmps := #[.pointer (some ⟨C, 0, none⟩), undef, .slice none 0 0, .func (.func 179) #[] #[.pointer (some ⟨bS, 0, none⟩)], .pointer (some ⟨b6, 0, none⟩), undef, .pointer (some ⟨bR, 0, none⟩), .pointer (some ⟨C, 0, none⟩), .func (.func 179) #[] #[.pointer (some ⟨bS, 0, none⟩)], .func (.func 179) #[] #[.pointer (some ⟨bS, 0, none⟩)], .bool false, .func (.func 179) #[] #[.pointer (some ⟨bS, 0, none⟩)], .agg #[.int .i64 x.p.s, .int .i64 x.p.o, .int .i64 x.p.l, .int .i64 x.p.p, .int .i64 x.p.m], .agg (x.r.cells x.s x.t), undef, undef, undef, undef, undef, undef, undef, undef], defers := [] } ∧ Kb wb.heap.size wb W
set_option maxRecDepth 100000 in
set_option maxHeartbeats 8000000 in
theorem walk15_any {wb : World} (w0 w : World) (C gb : Nat) (pd : PD) (d : Dk) (cf : Cf) (p : Ps) (e : Ps) (er : Int) (k0 : Nat) (L : List (Nat × List Value)) (G : List Gs) (F : List (World → Prop)) 
  (hw : Wk w0 wb w ((C, CB pd.D gb p e er) :: L) G F) (hd : DkIn pd d L) (hg : (fun W => GeoAt W gb cf.b cf.s cf.l) ∈ F) (hc : cf.Ok) (hk : ChEnds d cf k0 p) (hm : (chainG d cf k0 p).1.length ≤ 299) :
  Calls Tryz.prog 69 #[.pointer (some ⟨C, 0, none⟩)] w (WkSays15 w0 wb C pd.D gb p L G F (chainG d cf k0 p)) := by
 have HA := Lib.hid hw
 have HDK := Lib.hid hd
 obtain ⟨i0, hi0, hz0, hz1, hz2⟩ := info_parts infoRc15
 have HG := Lib.hid hg
 have HM := Lib.hid hm
 have HKE := Lib.hid hk
 clear hw hd hg hm hk
 have hfn := fun (w : World) (x y : Array Value) => run_eql_func_nil (P := Tryz.prog) w 172 Tryz.underlying172 (.func 179) x y
 refine (callsIn_wide (n := 6)).1 (callsIn_of_wp_marks Tryz.func69 rfl trivial ?_ rfl)
 simp only [Tryz.ntmps69, List.size_toArray, List.length_cons, List.length_nil, Nat.reduceAdd, Nat.reduceSub, Array.replicate_succ, Array.replicate_zero, List.push_toArray, List.append_toArray, List.nil_append, List.cons_append]
 refine wpIn_wide.2 ?_
 go_wp2_with fail
 refine (chain_records_any _ _).mono ?_
 rintro en w1 ⟨rfl, rfl⟩
 go_wp2_with fail
 obtain ⟨bS, h3⟩ : ∃ k, k = w.heap.size := ⟨_, rfl⟩
 have hs1 : (w.alloc (.cells #[.pointer (some ⟨C, 0, none⟩)] 113)).heap.size = w.heap.size + 1 := by simp
 have hw2 := (((HA.out.newB #[.pointer (some ⟨C, 0, none⟩)] 113 rfl).newB #[.slice none 0 0] 131 hs1).gnew 56 5)
 generalize hz : (w.alloc (.cells #[.pointer (some ⟨C, 0, none⟩)] 113)).alloc (.cells #[.slice none 0 0] 131) = w2 at *
 rw [← h3] at hw2 ⊢
 have HW2 := Lib.hid hw2
 obtain ⟨b6, hb6⟩ : ∃ k, k = bS + 1 := ⟨_, rfl⟩
 rw [← hb6] at HW2 ⊢
 have hbw : wb.heap.size ≤ w2.heap.size := HW2.out.hs
 clear hw2 hz h3 hb6 hs1 HA
 refine (wpIn_wide (n := 6)).1 ?_
 refine wpIn_rangeFunc_W (F := Fence.wide) (n := 6) rfl (by decide) (gf := 179) (lb := #[.pointer (some ⟨bS, 0, none⟩)]) rfl trivial (enters_of Tryz.func179 (by kernel_rfl) rfl)
  (c0 := WcC15 b6 none 0 []) (fun W1 _ => chrec1_seq w0 W1 C bS gb pd d cf p e er ((bS, [.pointer (some ⟨C, 0, none⟩)]) :: L) G F (6 - 1) (by decide) k0 299 (HDK.out.mono (fun x hx => List.mem_cons_of_mem _ hx)) List.mem_cons_self HG.out hc HKE.out HM.out) (fun _ => rfl)
  (WcJ15 wb b6) (WcM15 wb C b6 bS) ?hJ ?hJm ⟨none, 0, rfl, HW2.out.kb⟩ ?h0 ?assign ?body ?done ?stop
 case h0 =>
  show Wc w0 w2 _ _ (F ++ [])
  rw [List.append_nil]
  exact (HW2.out.perm (perm_w3 _ _ _ _) (List.perm_append_comm (l₁ := [_]))).toWc
 case hJ =>
  rintro (_ | cd) xs c X Y h hb
  ·obtain ⟨A, k, hc, hk⟩ := h
   exact ⟨A, k, hc, hk.trans (hb.mono hbw)⟩
  ·exact h.elim
 case hJm =>
  rintro pre x a c X Y ⟨A, k, bR, hc, ha, hk⟩ hb
  exact ⟨A, k, bR, hc, ha, hk.trans (hb.mono hbw)⟩
 case assign =>
  rintro lr pre x φ c W1 K hpre ⟨A, k, rfl, hk⟩ hat hsz hlen hK
  obtain ⟨xp, r, ⟨s1, s2, s3⟩, ⟨t1, t2, t3⟩⟩ := x
  simp only [Fnd.enc, Rc.cells, slv]
  have HAT := Lib.hid hat
  have HPRE := Lib.hid hpre
  clear hat hpre
  gi_wp2
  have hat2 := HAT.out.new1 (r.cells (s1, s2, s3) (t1, t2, t3)) 56
  refine hK _ _ _ (kf_of_only (S := []) ((Only.refl _ _).alloc _) (by simp)) hat2 ⟨A, k, W1.heap.size, rfl, rfl, hk.trans (Kb.of_only (S := []) ((Only.refl _ _).alloc _) (by simp))⟩
 case body =>
  rintro lr pre x φ c a' W1 ⟨X, q, fs, rfl, hfs, hpx, hfo⟩ ⟨A, k, bR, rfl, rfl, hk⟩ hat hsz hlen
  obtain ⟨y, hy0⟩ : ∃ y, y = x := ⟨_, rfl⟩
  have HY0 := Lib.hid hy0
  have hpl := hpx.length_le
  have hml := HM.out
  simp only [List.length_map, List.length_append, List.length_cons, List.length_nil] at hpl
  obtain ⟨xp, r, ⟨s1, s2, s3⟩, ⟨t1, t2, t3⟩⟩ := x
  simp only [Rc.cells, slv]
  have HF := Lib.hid (Wk.start hat.flip)
  have hyo : rr1 y = [.int .i64 r.m, .int .i64 r.n, .int .i64 r.p, .slice s1 s2 s3, .slice t1 t2 t3] := by rw [hy0]; rfl
  have HYO := Lib.hid hyo
  obtain ⟨j, hj⟩ : ∃ j, j = pre.length := ⟨_, rfl⟩
  have HJ := Lib.hid hj
  have hjm : (j : Int) < 300 := by omega
  have hj9 : j < 1000 := by omega
  have hwa : (WcC15 b6 A k pre) = ⟨[(b6, [.slice A j k])], [⟨56, 5, .slice A j k, j, rrV pre⟩], []⟩ := by rw [hj]; rfl
  rw [hwa] at HF
  have yR := HF.out.boxi 0 rfl
  simp only [Rc.cells, slv] at yR
  obtain ⟨r0, r1, r2, r3, r4⟩ := Kn.own5 yR
  have y6 := HF.out.boxi 1 rfl
  have c6 := y6.cell 0 (by simp)
  have f6 := y6.frozen 0
  have l6 := y6.lt
  simp only [List.getElem_cons_zero] at c6
  have HD := Lib.hid (HF.out.alloc (.cells #[.int .i64 r.m, .int .i64 r.n, .int .i64 r.p, .slice s1 s2 s3, .slice t1 t2 t3] 56))
  have hnw := news_new W1 #[.int .i64 r.m, .int .i64 r.n, .int .i64 r.p, .slice s1 s2 s3, .slice t1 t2 t3] 56 (by simp [maxLen])
  have HNW := Lib.hid hnw
  have HON := Lib.hid (rr1_one y)
  have HBS := Lib.hid HD.out.only.size
  rw [HYO.out] at HON
  clear hnw hyo hy0 hj hwa yR y6 hat hfs hpx hpl hml hfo
  refine wpIn_block ?_
  gi_wp2_with (first
   | (gi_at_builtin; refine wpListIn_append_own_at _ rfl (.tmp 17) (.tmp 19) 131 rfl w0.heap.size 56 i0 _ 5 72 Tryz.underlying131 hi0 hz0 hz1 hz2 rfl (by decide) (.slice A j k) j (rrV pre) rfl (HD.out.gi 0 rfl) ⟨W1.heap.size, 0, none⟩ 1 1 [.int .i64 r.m, .int .i64 r.n, .int .i64 r.p, .slice s1 s2 s3, .slice t1 t2 t3] rfl rfl HNW.out HON.out (by unfold maxLen; omega) (by omega) HBS.out ?_; intro v5 w5 hown hgrow _ hat2; rw [← HYO.out, ← rrV_snoc] at hown; have hdd := HD.out.gapp 0 rfl hown hgrow hat2; obtain ⟨A6, k6, rfl⟩ := hdd.gform 0 rfl; simp only [List.set_cons_zero, List.set_cons_succ] at hdd; have HD5 := Lib.hid hdd; have HGR := Lib.hid hgrow; clear hdd hown hgrow hat2 HNW HON HBS c6 f6 l6; have y6 := HD5.out.boxi 1 rfl; have c6 := y6.cell 0 (by simp); have f6 := y6.frozen 0; have l6 := y6.lt; simp only [List.getElem_cons_zero] at c6; clear y6)
   | fail)
  have hl2 : (pre ++ [y]).length = j + 1 := by simp [HJ.out]
  have hwa2 : WcC15 b6 A6 k6 (pre ++ [y]) = ⟨[(b6, [.slice A6 (j + 1) k6])], [⟨56, 5, .slice A6 (j + 1) k6, j + 1, rrV (pre ++ [y])⟩], []⟩ := by unfold WcC15; rw [hl2]
  have hw6 := (HD5.out.put 1 (p := b6) rfl 0 (.slice A6 (j + 1) k6)).ldrop
  rw [← HY0.out]
  refine ⟨kf_of_kb hw6.kb, WcC15 b6 A6 k6 (pre ++ [y]), ?_, ⟨A6, k6, rfl, hk.trans (hw6.kb.mono (Nat.le_trans hbw hsz))⟩⟩
  rw [hwa2]
  exact At3.unflip hw6.toWc
 case done =>
  rintro D xs φ c W1 hD ⟨X, fs, rfl, hfs, hxs⟩ ⟨A, k, rfl, hkb⟩ hat hK hsz
  have HF := Lib.hid (Wk.start hat.flip)
  obtain ⟨j, hj⟩ : ∃ j, j = xs.length := ⟨_, rfl⟩
  have HJ := Lib.hid hj
  have hwa : (WcC15 b6 A k xs) = ⟨[(b6, [.slice A j k])], [⟨56, 5, .slice A j k, j, rrV xs⟩], []⟩ := by rw [hj]; rfl
  rw [hwa] at HF
  have c6 := Kn.own1 (HF.out.boxi 0 rfl)
  clear hj hwa hat
  go_wp2_with fail
  refine marks_ret1 (v := .slice A j k) (D := D) hK (by kernel_rfl) rfl ?_
  have hw := HF.out.toWc.putObj (.deferred none) hK rfl (Nat.le_trans HW2.out.only.size hD)
  simp only [List.append_nil] at hw
  have hw2 := hw.sub (L' := (C, CB pd.D gb p (chainG d cf k0 p).2.1 (chainG d cf k0 p).2.2) :: L) (.cons _ (.cons_cons _ ((List.sublist_cons_self _ _).trans (List.sublist_append_right _ _)))) (fun f hf => hf)
  rw [HJ.out] at hw2 ⊢
  exact ⟨xs, A, k, fs, rfl, hxs, hfs, hw2, hkb.trans (kb_putObj _ _ (Nat.le_trans hbw hD))⟩
 case stop =>
  rintro D cd pre φ c W1 hD hfix hj
  exact hj.elim
end Go.Proofs.YtgcfdjcpcclcjaaGreat
namespace Go.Kn
open Go Go.RowKit
section
variable {c : Cf} {s0 : Int} {q0 : Ps}
/-- chain's answer, whatever it takes -/
def chainR (d : Dk) (c : Cf) (p : Ps) : List (Ps × Rc) × Ps × Int := chainG d c ((2147483648 - p.l).toNat + 1) p
theorem Run.told {T : Nat} {sg : Nat → Int} {d : Dk} (hs : Sgs c sg T) (hT : T ≤ 8) {p q' : Ps} {l : List (Ps × Rc)} {Y : Nat} {e : Int} (h : Run c sg T d 1 ⟨p.s, 1, p.l, p.p, p.m⟩ l Y q') (hh : Hd d c ⟨p.s, 0, p.l, p.p, p.m⟩) (hf : follow d c q' = (none, e)) (hl : p.l ≤ 1000) (ho : p.o = 0) :
  chainR d c p = (l, q', e) := by
 have hp := h.pl
 have hlt := hp.2.1.lt
 have hseg := hp.1.seg hs
 have e1 := h.chain hs hf 65 (2147483648 - p.l).toNat (by omega) (by omega)
 obtain ⟨ps, po, pl, pp, pm⟩ := p
 simp only at ho
 subst ho
 have e2 := (hh.scan hs.ok hseg).1
 unfold chainR
 rw [chainG_M, e2]
 exact e1
/-- of a log of which a sector is spoilt just what stands ahead of it is told -/
theorem Run.cut {T : Nat} {sg : Nat → Int} {d d' : Dk} (hs : Sgs c sg T) {q0 q' : Ps} {l : List (Ps × Rc)} {Y : Nat} (h : Run c sg T d 1 q0 l Y q') {k : Nat} (hk : k ≤ l.length) :
  ∃ Yk qk, PlY sg T Yk qk ∧ (∀ x, l[k]? = some x → x.1 = qk) ∧ (k = l.length → qk = q') ∧
   ((∀ z, z < 24 * T → z ≠ Yk → d'.err (Sec c sg z) = d.err (Sec c sg z) ∧ d'.read (Sec c sg z) = d.read (Sec c sg z)) → Run c sg T d' 1 q0 (l.take k) Yk qk) := by
 obtain ⟨Yk, qk, h1, h2, h3⟩ := h.split k hk
 have hp := h1.pl
 refine ⟨Yk, qk, hp.2.1, h3, fun e => ?_, fun ha => h1.agr (fun y a b => ha y (by have := hp.2.1.lt; omega) (by omega))⟩
 subst e
 rw [List.drop_length] at h2
 cases h2
 rfl
end
end Go.Kn
namespace Go.Proofs.YtgcfdjcpcclcjaaGreat
open Go Go.RowKit Go.Kn
section
variable {w0 w : World} {p : PD} {r : RD} {d e : Dk} {L : List (Nat × List Value)} {G : List Gs} {F : List (World → Prop)} {C gb : Nat} {q en : Ps} {er : Int}
theorem duo_chnew (h : Duo w0 w p r d e ⟨L, G, F⟩) (gb : Nat) (q : Ps) :
  Calls Tryz.prog 56 #[.pointer (some ⟨p.D, 0, none⟩), .pointer (some ⟨gb, 0, none⟩), .agg #[.int .i64 q.s, .int .i64 q.o, .int .i64 q.l, .int .i64 q.p, .int .i64 q.m]] w fun en w' => ∃ C, en = .returned (.pointer (some ⟨C, 0, none⟩)) ∧ Duo w0 w' p r d e ⟨(C, CB p.D gb q q 0) :: L, G, F⟩ := by
 obtain ⟨L0, G0, F0, hw, -, back⟩ := h.dk
 refine (chain_new_any w0 w p.D gb q _ _ _ (Wk.start hw)).mono ?_
 rintro en w1 ⟨C, rfl, hw1⟩
 exact ⟨C, rfl, back w1 ⟨(C, CB p.D gb q q 0) :: L, G, F⟩ hw1.toWc⟩
end
end Go.Proofs.YtgcfdjcpcclcjaaGreat
namespace Go.Kn
open Go Go.RowKit
/-- records that follow one another along the log, all of it in sectors of which P says so -/
inductive Lgw (c : Cf) (P : Int → Prop) (d : Dk) : Ps → List (Ps × Rc) → Ps → Prop
 | nil (q : Ps) : Lgw c P d q [] q
 | cons {q q1 q' : Ps} {r : Rc} {l : List (Ps × Rc)} : follow d c q = (some (r, q1), 0) → q.o < q1.o → nextOf r = none → (∀ x, c.at_ q.s + q.o ≤ x → x < c.at_ q.s + q1.o → P x) → Lgw c P d q1 l q' → Lgw c P d q ((q, r) :: l) q'
 | turn {q q1 q' : Ps} {r : Rc} {v : Int} {l : List (Ps × Rc)} : follow d c q = (some (r, q1), 0) → q.o < q1.o → nextOf r = some v → 0 ≤ v ∧ v ≤ c.s - 1 → (∀ x, c.at_ q.s + q.o ≤ x → x < c.at_ q.s + q1.o → P x) → P (c.at_ v) → Hd d c ⟨v, 0, q1.l, q1.p, q1.m⟩ → Lgw c P d ⟨v, 1, q1.l, q1.p, q1.m⟩ l q' → Lgw c P d q ((q, r) :: l) q'
section
variable {c : Cf} {P P' : Int → Prop} {d d' : Dk} {q q1 q' : Ps} {l l' : List (Ps × Rc)}
theorem Lgw.app (h : Lgw c P d q l q1) (h2 : Lgw c P d q1 l' q') : Lgw c P d q (l ++ l') q' := by
 induction h with
 | nil _ => exact h2
 | cons a b e f _ ih => exact .cons a b e f (ih h2)
 | turn a b e f g i j _ ih => exact .turn a b e f g i j (ih h2)
/-- what stands in the log's own sectors stays: so does the log -/
theorem Lgw.agr (h : Lgw c P d q l q') (hP : ∀ x, P x → P' x) (ha : ∀ x, P x → d'.err x = d.err x ∧ d'.read x = d.read x) : Lgw c P' d' q l q' := by
 induction h with
 | nil _ => exact .nil _
 | cons a b e f _ ih => exact .cons (follow_agr2 (lo := c.at_ _ + _) (hi := c.at_ _ + _) (fun x h1 h2 => ha x (f x h1 h2)) (Int.le_refl _) a (Int.le_refl _)) b e (fun x h1 h2 => hP x (f x h1 h2)) ih
 | turn a b e f g i j _ ih =>
  obtain ⟨e1, e2⟩ := ha _ i
  exact .turn (follow_agr2 (lo := c.at_ _ + _) (hi := c.at_ _ + _) (fun x h1 h2 => ha x (g x h1 h2)) (Int.le_refl _) a (Int.le_refl _)) b e f (fun x h1 h2 => hP x (g x h1 h2)) (hP _ i) ⟨e1.trans j.e, e2.trans j.r, j.may⟩ ih
theorem follow_in {r : Rc} {e : Int} (h : follow d c q = (some (r, q1), e)) : 1 ≤ q.o ∧ q.o ≤ c.l - 1 := by
 refine Classical.byContradiction fun hn => ?_
 rw [follow_out hn] at h
 cases h
/-- a log is told as it stands -/
theorem Lgw.chain (hc : c.Ok) (h : Lgw c P d q l q') {e : Int} (hf : follow d c q' = (none, e)) : ∀ f K : Nat, 1 ≤ f → 65 ≤ (f : Int) + q.o → l.length ≤ K → chM d c K (scanG d c f q) = (l, q', e) := by
 induction h with
 | nil q =>
  intro f K h0 h1 _
  obtain ⟨f, rfl⟩ : ∃ g, f = g + 1 := ⟨f - 1, by omega⟩
  rw [scanG_none hf]
  rfl
 | cons hf' ho hn hp hr ih =>
  intro f K h0 h1 h2
  obtain ⟨f, rfl⟩ : ∃ g, f = g + 1 := ⟨f - 1, by omega⟩
  have hlen := h2
  simp only [List.length_cons] at hlen
  rw [scanG_some hf', hn]
  simp only [Option.isSome_none, Bool.false_eq_true, if_false]
  have hin := follow_in hf'
  have hl := hc.2.2
  have := ih hf f K (by omega) (by omega) (by omega)
  have e3 : chM d c K ((scanG d c f _).1, (scanG d c f _).2) = _ := this
  rw [chM_cons hn, e3]
 | turn hf' ho hn hv hp hpv hh hr ih =>
  rename_i q q1 q' r v l
  intro f K h0 h1 h2
  obtain ⟨f, rfl⟩ : ∃ g, f = g + 1 := ⟨f - 1, by omega⟩
  obtain ⟨K, rfl⟩ : ∃ g, K = g + 1 := ⟨K - 1, by simp at h2; omega⟩
  rw [scanG_some hf', hn]
  simp only [Option.isSome_some, if_true]
  have hni : nextIn c [(q, r)] = some v := by
   rw [show [(q, r)] = [] ++ [(q, r)] from rfl, nextIn_snoc, hn]
   simp [Option.filter]
   omega
  have e1 : scanR d c false (turnP q1 v) = scanG d c 65 ⟨v, 1, q1.l, q1.p, q1.m⟩ := (hh.scan hc hv).1
  have e2 := ih hf 65 K (by decide) (by show (65 : Int) ≤ 65 + 1; decide) (by simp at h2; omega)
  unfold chM
  rw [hni]
  simp only
  rw [chainG_M, e1, e2]
  rfl
end
end Go.Kn
namespace Go.Kn
open Go Go.RowKit
/-- does a record tell the next segment -/
def isNx (x : Ps × Rc) : Bool := match x.2.its with
 | [] => false
 | i :: _ => decide (i.k = 7)
def no7 (i : It) : Bool := decide (i.k ≠ 7)
/-- the log's own sectors -/
def Pz (U : Int → Prop) (z : Wr) (x : Int) : Prop := ∃ s off : Int, (0 ≤ s ∧ s ≤ 7) ∧ (0 ≤ off ∧ off ≤ 23) ∧ x = c8.at_ s + off ∧ U s ∧ (s = z.p.s → off < max z.p.o 1)
def at1 (q : Ps) : Ps := ⟨q.s, max q.o 1, q.l, q.p, q.m⟩
structure LI (U : Int → Prop) (p : Ps) (l : List (Ps × Rc)) (its : List It) (bls : List (List UInt8)) (tn : Nat) (z : Wr) : Prop where
 log : Lgw c8 (Pz U z) z.d (at1 p) l (at1 z.p)
 hd : p.o = 0 → z.p.o ≠ 0 → Hd z.d c8 ⟨p.s, 0, p.l, p.p, p.m⟩ ∧ Pz U z (c8.at_ p.s)
 st : z.p.o = 0 → l = [] ∧ z.p = p
 st2 : l = [] → z.p = p
 zs : ∀ s off : Int, 0 ≤ s ∧ s ≤ 7 → 0 ≤ off ∧ off ≤ 23 → (¬ U s ∨ (s = z.p.s ∧ z.p.o ≤ off)) → z.d.read (c8.at_ s + off) = List.replicate 64 0
 cu : U z.p.s
 kd : ∀ x ∈ l, (x.2.its ≠ [] ∧ ∀ i ∈ x.2.its, i.k ≠ 7) ∨ ((∃ v, x.2.its = [⟨7, 0, 0, v⟩]) ∧ x.2.bl = [])
 its : (l.flatMap fun x => x.2.its.filter no7) ++ z.its = its
 bls : (l.flatMap fun x => x.2.bl) ++ z.bl = bls
 tn : l.countP isNx = tn
 nm : ∀ (i : Nat) (x : Ps × Rc), l[i]? = some x → x.2.n = p.l + (i : Int) ∧ x.2.m = p.m
 zl : z.p.l = p.l + (l.length : Int)
 zm : z.p.m = p.m
section
variable {U : Int → Prop} {p : Ps} {l : List (Ps × Rc)} {its : List It} {bls : List (List UInt8)} {tn : Nat} {z y : Wr} {i : It} {b : List UInt8}
theorem LI.mono {U' : Int → Prop} (h : LI U p l its bls tn z) (hU : ∀ s, U s → U' s) : LI U' p l its bls tn z := by
 have hP : ∀ x, Pz U z x → Pz U' z x := fun x ⟨s, off, a, b, e, f, g⟩ => ⟨s, off, a, b, e, hU s f, g⟩
 exact { log := h.log.agr hP (fun _ _ => ⟨rfl, rfl⟩), hd := fun a b => ⟨(h.hd a b).1, hP _ (h.hd a b).2⟩, st := h.st, st2 := h.st2, zs := fun s off a b e => h.zs s off a b (e.imp (fun f g => f (hU s g)) id), cu := hU _ h.cu, kd := h.kd, its := h.its, bls := h.bls, tn := h.tn, nm := h.nm, zl := h.zl, zm := h.zm }
theorem LI.put (h : LI U p l its bls tn z) : LI U p l (its ++ [i]) (bls ++ if i.loaded = true then [b] else []) tn (z.put i b) :=
 { log := h.log, hd := h.hd, st := h.st, st2 := h.st2, zs := h.zs, cu := h.cu, kd := h.kd, its := by show _ ++ (z.its ++ [i]) = _; rw [← List.append_assoc, h.its], bls := by show _ ++ (z.bl ++ _) = _; rw [← List.append_assoc, h.bls], tn := h.tn, nm := h.nm, zl := h.zl, zm := h.zm }
theorem LI.grab (h : LI U p l its bls tn z) (t : Tb) : LI U p l its bls tn { z with t := t } :=
 { log := h.log, hd := h.hd, st := h.st, st2 := h.st2, zs := h.zs, cu := h.cu, kd := h.kd, its := h.its, bls := h.bls, tn := h.tn, nm := h.nm, zl := h.zl, zm := h.zm }
/-- rows that lie on a disk are read -/
theorem gat_now {d : Dk} (h : Rdy d) {s0 : List (List UInt8)} {a : Int} {b : List UInt8} {n : Nat} (hn : d.now = setSecs s0 a.toNat b n) (ha : 0 ≤ a) (hb : b.length = 64 * n) (hr : a + n ≤ d.safe.length) : gat d a n = b ∧ gerr d a n = 0 := by
 have hl0 : s0.length = d.safe.length := by rw [← Dk.now_length d, hn, setSecs_length]
 have hh : ∀ i : Nat, i < n → d.has (a + i) = true := fun i hi => has_of (by omega) (by omega)
 have hrd : ∀ i : Nat, i < n → d.read (a + i) = (b.drop (64 * i)).take 64 := fun i hi => by
  refine h.read_sec (hh i hi) ?_
  rw [hn, show (a + (i : Nat)).toNat = a.toNat + i from by omega]
  exact setSecs_at _ _ _ i n hi (by omega)
 refine ⟨?_, rdy_gerr h ha n hr⟩
 have e : ∀ m : Nat, m ≤ n → gat d a m = (List.range m).flatMap (fun i => (b.drop (64 * i)).take 64) := by
  intro m
  induction m with
  | zero => intro _; rfl
  | succ m ih =>
   intro hm
   rw [gat_succ, ih (by omega), List.range_succ, List.flatMap_append, List.flatMap_cons, List.flatMap_nil, List.append_nil, hrd m (by omega)]
 rw [e n (Nat.le_refl _), chunks b n (by omega), List.take_of_length_le (by omega)]
theorem no7_all {l : List It} (h : ∀ i ∈ l, i.k ≠ 7) : l.filter no7 = l := List.filter_eq_self.2 fun i hi => decide_eq_true (h i hi)
theorem nextOf_none {r : Rc} (h : ∀ i ∈ r.its, i.k ≠ 7) : nextOf r = none := by
 unfold nextOf
 rw [List.find?_eq_none.2 (fun i hi => by simp [h i hi])]
 rfl
theorem LI.emit (hz : Hw c8 z) (hl : z.p.l ≤ 2147483647) (hn : z.its ≠ []) (h : LI U p l its bls tn z) (hy : z.emit c8 = (y, 0)) : LI U p (l ++ [(at1 z.p, z.rcd)]) its bls tn y := by
 obtain ⟨d, e1, e2, e3, e4, e5⟩ := hz.emit hl hn
 rw [e1] at hy
 obtain rfl := (Prod.mk.inj hy).1
 have hzs : 0 ≤ z.p.s ∧ z.p.s ≤ 7 := hz.s
 have hzo : 0 ≤ z.p.o ∧ z.p.o ≤ 23 := hz.o
 have hat := at8 hzs
 have hfit : behind z.p.o z.bl.length ≤ 23 := hz.fit.resolve_left hn
 have hlen : (z.d.safe.length : Int) = 202 := hz.len
 have hlen2 : (d.safe.length : Int) = 202 := e3
 have hrm := hz.recMay hl hn
 have hrb := rcBytes_length hrm
 have hnow : z.d.now.length = z.d.safe.length := Dk.now_length _
 have hbh : behind z.p.o z.bl.length = max z.p.o 1 + 1 + (z.bl.length : Int) := rfl
 rw [hbh] at hfit
 -- what stays
 have keep : ∀ s off : Int, 0 ≤ s ∧ s ≤ 7 → 0 ≤ off ∧ off ≤ 23 → (s = z.p.s → (off < max z.p.o 1 ∧ (z.p.o = 0 → off ≠ 0)) ∨ max z.p.o 1 + 1 + (z.bl.length : Int) ≤ off) → d.err (c8.at_ s + off) = z.d.err (c8.at_ s + off) ∧ d.read (c8.at_ s + off) = z.d.read (c8.at_ s + off) := by
  intro s off hs ho hc
  have ha := at8 hs
  refine read_keep hz.rdy e2 hz.len e3 ?_
  rw [e5, setSecs_other _ _ _ _ _ (by
   rw [hat, ha]
   by_cases e : s = z.p.s
   ·have := hc e
    subst e
    omega
   ·omega)]
  split
  ·rename_i h0
   rw [List.getElem?_set_ne]
   rw [hat, ha]
   by_cases e : s = z.p.s
   ·have := hc e
    subst e
    omega
   ·omega
  ·rfl
 obtain ⟨g1, g2⟩ := gat_now e2 (a := c8.at_ z.p.s + max z.p.o 1) e5 (by omega) hrb (by push_cast; omega)
 have hf : follow d c8 (at1 z.p) = (some (z.rcd, ⟨z.p.s, behind z.p.o z.bl.length, z.p.l + 1, (rcSum z.rcd : Nat), z.p.m⟩), 0) := by
  have := follow_laid (d := d) (c := c8) (q := at1 z.p) hrm g1 g2 e2.ok (by show 1 ≤ max _ _; omega) (by show max z.p.o 1 + ((1 + z.bl.length : Nat) : Int) ≤ 24; push_cast; omega) rfl rfl (Int.le_refl _)
  rw [this]
  have e : max z.p.o 1 + ((1 + z.bl.length : Nat) : Int) = behind z.p.o z.bl.length := by rw [hbh]; push_cast; omega
  show (some (z.rcd, (⟨z.p.s, max z.p.o 1 + ((1 + z.bl.length : Nat) : Int), _, _, _⟩ : Ps)), (0 : Int)) = _
  rw [e]
  rfl
 have hP : ∀ x, Pz U z x → Pz U ⟨d, z.t.touch z.p.s z.p.l, ⟨z.p.s, behind z.p.o z.bl.length, z.p.l + 1, (rcSum z.rcd : Nat), z.p.m⟩, [], []⟩ x := fun x ⟨s, off, a, b, e, f, g⟩ => ⟨s, off, a, b, e, f, fun k => by
  have := g k
  show off < max (behind z.p.o z.bl.length) 1
  rw [hbh]
  omega⟩
 have hnx := nextOf_none (r := z.rcd) hz.k7
 have hq1 : at1 (⟨z.p.s, behind z.p.o z.bl.length, z.p.l + 1, (rcSum z.rcd : Nat), z.p.m⟩ : Ps) = ⟨z.p.s, behind z.p.o z.bl.length, z.p.l + 1, (rcSum z.rcd : Nat), z.p.m⟩ := by
  unfold at1
  show (⟨_, max (behind z.p.o z.bl.length) 1, _, _, _⟩ : Ps) = _
  rw [show max (behind z.p.o z.bl.length) 1 = behind z.p.o z.bl.length from by rw [hbh]; omega]
 have hlast : ∀ (x : Int), c8.at_ (at1 z.p).s + (at1 z.p).o ≤ x → x < c8.at_ (at1 z.p).s + behind z.p.o z.bl.length → Pz U ⟨d, z.t.touch z.p.s z.p.l, ⟨z.p.s, behind z.p.o z.bl.length, z.p.l + 1, (rcSum z.rcd : Nat), z.p.m⟩, [], []⟩ x := by
  intro x h1 h2
  have h1' : c8.at_ z.p.s + max z.p.o 1 ≤ x := h1
  have h2' : x < c8.at_ z.p.s + behind z.p.o z.bl.length := h2
  rw [hbh] at h2'
  refine ⟨z.p.s, x - c8.at_ z.p.s, hzs, by omega, by omega, h.cu, fun _ => ?_⟩
  show _ < max (behind z.p.o z.bl.length) 1
  rw [hbh]
  omega
 have hlog : Lgw c8 (Pz U ⟨d, z.t.touch z.p.s z.p.l, ⟨z.p.s, behind z.p.o z.bl.length, z.p.l + 1, (rcSum z.rcd : Nat), z.p.m⟩, [], []⟩) d (at1 p) l (at1 z.p) := by
  by_cases h0 : z.p.o = 0
  ·obtain ⟨s1, s2⟩ := h.st h0
   subst s1
   rw [s2]
   exact .nil _
  ·refine h.log.agr hP fun x ⟨s, off, a, b, e, f, g⟩ => ?_
   rw [e]
   exact keep s off a b fun k => .inl ⟨g k, fun k0 => absurd k0 h0⟩
 refine { log := ?_, hd := ?_, st := ?_, st2 := fun e => by simp at e, zs := ?_, cu := h.cu, kd := ?_, its := ?_, bls := ?_, tn := ?_, nm := ?_, zl := ?_, zm := h.zm }
 ·refine hlog.app (.cons hf ?_ hnx hlast ?_)
  ·show max z.p.o 1 < behind z.p.o z.bl.length
   rw [hbh]
   omega
  ·rw [hq1]
   exact .nil _
 ·intro hp0 _
  by_cases h0 : z.p.o = 0
  ·obtain ⟨s1, s2⟩ := h.st h0
   have hsec : d.now[(c8.at_ z.p.s).toNat]? = some (headB z.p) := by
    rw [e5, setSecs_other _ _ _ _ _ (by rw [hat]; omega), if_pos h0, List.getElem?_set_self (by rw [hnow, hat]; omega)]
   have hh : d.has (c8.at_ z.p.s) = true := has_of (by rw [hat]; omega) (by rw [hat]; omega)
   have hmay : headMay z.p.head = true := head_may (s := z.p.s) (o := z.p.o) (l := z.p.l) (p := z.p.p) (m := z.p.m) ⟨hzs.1, by omega⟩ ⟨hz.l, hl⟩ hz.pp hz.m
   rw [s2] at hsec hh hmay
   refine ⟨⟨e2.err0 hh, e2.read_sec hh hsec, hmay⟩, p.s, 0, by rw [← s2]; exact hzs, by decide, by omega, by rw [← s2]; exact h.cu, fun _ => ?_⟩
   show (0 : Int) < max (behind z.p.o z.bl.length) 1
   omega
  ·obtain ⟨a, b⟩ := h.hd hp0 h0
   obtain ⟨s, off, b1, b2, b3, b4, b5⟩ := b
   obtain ⟨k1, k2⟩ := keep s off b1 b2 fun k => .inl ⟨b5 k, fun k0 => absurd k0 h0⟩
   rw [← b3] at k1 k2
   exact ⟨⟨k1.trans a.e, k2.trans a.r, a.may⟩, hP _ ⟨s, off, b1, b2, b3, b4, b5⟩⟩
 ·intro h0
  have h0' : behind z.p.o z.bl.length = 0 := h0
  rw [hbh] at h0'
  omega
 ·intro s off a b e
  have hne : ¬ U s → s ≠ z.p.s := fun hu hs => hu (hs ▸ h.cu)
  have e' : ¬ U s ∨ (s = z.p.s ∧ behind z.p.o z.bl.length ≤ off) := e
  rw [hbh] at e'
  rw [(keep s off a b fun k => by
   rcases e' with e' | e'
   ·exact absurd k (hne e')
   ·exact .inr e'.2).2]
  exact h.zs s off a b (e'.imp id fun e' => ⟨e'.1, by omega⟩)
 ·intro x hx
  rcases List.mem_append.1 hx with hx | hx
  ·exact h.kd x hx
  ·rw [List.mem_singleton.1 hx]
   exact .inl ⟨hn, hz.k7⟩
 ·rw [List.flatMap_append, ← h.its]
  show _ ++ (z.rcd.its.filter no7 ++ []) ++ [] = _
  rw [no7_all (l := z.rcd.its) hz.k7, List.append_nil, List.append_nil]
  rfl
 ·rw [List.flatMap_append, ← h.bls]
  show _ ++ (z.rcd.bl ++ []) ++ [] = _
  rw [List.append_nil, List.append_nil]
  rfl
 ·rw [List.countP_append, h.tn, List.countP_singleton, if_neg]
  ·rfl
  ·unfold isNx
   show ¬ (match z.its with | [] => false | i :: _ => decide (i.k = 7)) = true
   cases hzi : z.its with
   | nil => simp
   | cons j js => simp only [decide_eq_true_eq]; exact hz.k7 j (by rw [hzi]; simp)
 ·intro j x hx
  by_cases hj : j < l.length
  ·rw [List.getElem?_append_left hj] at hx
   exact h.nm j x hx
  ·obtain rfl : j = l.length := by
    by_cases e : j = l.length
    ·exact e
    ·rw [List.getElem?_eq_none (by rw [List.length_append]; simp; omega)] at hx
     cases hx
   rw [List.getElem?_append_right (Nat.le_refl _), Nat.sub_self] at hx
   obtain rfl := Option.some.inj hx
   exact ⟨h.zl, h.zm⟩
 ·show z.p.l + 1 = _
  rw [h.zl, List.length_append]
  simp
  omega
theorem LI.turn (hz : Hw c8 z) (hl : z.p.l ≤ 2147483646) (ho1 : 1 ≤ z.p.o) (hi : z.its = []) (hb : z.bl = []) {n : Nat} (hn : n < 8) (hu : ¬ U (n : Int)) (h : LI U p l its bls tn z) (hy : z.turn c8 n = (y, 0)) : LI (fun s => U s ∨ s = (n : Int)) p (l ++ [(at1 z.p, nextR z.p n)]) its bls (tn + 1) y := by
 obtain ⟨d, e1, e2, e3, e4, e5⟩ := hz.turn (s := (n : Int)) ⟨by omega, by show (n : Int) ≤ 7; omega⟩ hl ho1
 rw [e1, hi, hb] at hy
 obtain rfl := (Prod.mk.inj hy).1
 have hzs : 0 ≤ z.p.s ∧ z.p.s ≤ 7 := hz.s
 have hzo : 0 ≤ z.p.o ∧ z.p.o ≤ 23 := hz.o
 have hat := at8 hzs
 have hatn := at8 (s := (n : Int)) ⟨by omega, by omega⟩
 have hns : (n : Int) ≠ z.p.s := fun e => hu (e ▸ h.cu)
 have hlen : (z.d.safe.length : Int) = 202 := hz.len
 have hlen2 : (d.safe.length : Int) = 202 := e3
 have hnow : z.d.now.length = z.d.safe.length := Dk.now_length _
 obtain ⟨hrm, hnx⟩ := nextR_ok (q := z.p) (v := (n : Int)) hz.m ⟨hz.l, by omega⟩ hz.pp ⟨by omega, by omega⟩
 have h64 : (rcBytes (nextR z.p n)).length = 64 := rcBytes_64 hrm rfl
 have hsum := rcSum_lt2 hrm
 have hq : at1 z.p = z.p := by
  unfold at1
  rw [show max z.p.o 1 = z.p.o from by omega]
 have keep : ∀ s off : Int, 0 ≤ s ∧ s ≤ 7 → 0 ≤ off ∧ off ≤ 23 → (s = z.p.s → off ≠ z.p.o) → (s = (n : Int) → off ≠ 0) → d.err (c8.at_ s + off) = z.d.err (c8.at_ s + off) ∧ d.read (c8.at_ s + off) = z.d.read (c8.at_ s + off) := by
  intro s off hs ho hc hc2
  have ha := at8 hs
  refine read_keep hz.rdy e2 hz.len e3 ?_
  rw [e5, List.getElem?_set_ne (by
   rw [hatn, ha]
   by_cases e : s = (n : Int)
   ·have := hc2 e
    omega
   ·omega), setSecs_other _ _ _ _ _ (by
   rw [hat, ha]
   by_cases e : s = z.p.s
   ·have := hc e
    subst e
    omega
   ·omega)]
 have hsec : d.now[(c8.at_ z.p.s + z.p.o).toNat]? = some (rcBytes (nextR z.p n)) := by
  rw [e5, List.getElem?_set_ne (by rw [hatn, hat]; omega)]
  have := setSecs_at z.d.now (c8.at_ z.p.s + z.p.o).toNat (rcBytes (nextR z.p n)) 0 1 (by decide) (by rw [hnow, hat]; omega)
  rw [Nat.add_zero] at this
  rw [this]
  simp [List.take_of_length_le, h64]
 have hsecn : d.now[(c8.at_ (n : Int)).toNat]? = some (headB (nextP z.p n 0)) := by
  rw [e5, List.getElem?_set_self (by rw [setSecs_length, hnow, hatn]; omega)]
 have hh : d.has (c8.at_ z.p.s + z.p.o) = true := has_of (by rw [hat]; omega) (by rw [hat]; omega)
 have hhn : d.has (c8.at_ (n : Int)) = true := has_of (by rw [hatn]; omega) (by rw [hatn]; omega)
 have hf : follow d c8 (at1 z.p) = (some (nextR z.p n, ⟨z.p.s, z.p.o + 1, z.p.l + 1, (rcSum (nextR z.p n) : Nat), z.p.m⟩), 0) := by
  rw [hq]
  have := follow_laid (d := d) (c := c8) (q := z.p) (r := nextR z.p n) hrm (by show gat _ _ 1 = _; rw [gat_one]; exact e2.read_sec hh hsec) (by show gerr _ _ 1 = _; rw [gerr_one]; exact e2.err0 hh) e2.ok ho1 (by show z.p.o + ((1 + 0 : Nat) : Int) ≤ 24; push_cast; omega) rfl rfl (Int.le_refl _)
  exact this
 have hP : ∀ x, Pz U z x → Pz (fun s => U s ∨ s = (n : Int)) ⟨d, (z.t.touch z.p.s z.p.l).shut z.p.s, ⟨n, 1, z.p.l + 1, (rcSum (nextR z.p n) : Nat), z.p.m⟩, [], []⟩ x := fun x ⟨s, off, a, b, e, f, g⟩ => ⟨s, off, a, b, e, .inl f, fun k => absurd f (k ▸ hu)⟩
 have hhead : Hd d c8 ⟨n, 0, z.p.l + 1, (rcSum (nextR z.p n) : Nat), z.p.m⟩ := by
  have hzl := hz.l
  exact ⟨e2.err0 hhn, e2.read_sec hhn hsecn, head_may ⟨by omega, by omega⟩ ⟨by omega, by omega⟩ ⟨by omega, by omega⟩ hz.m⟩
 have hPn : Pz (fun s => U s ∨ s = (n : Int)) ⟨d, (z.t.touch z.p.s z.p.l).shut z.p.s, ⟨n, 1, z.p.l + 1, (rcSum (nextR z.p n) : Nat), z.p.m⟩, [], []⟩ (c8.at_ (n : Int)) := ⟨n, 0, ⟨by omega, by omega⟩, by decide, by omega, .inr rfl, fun _ => by show (0 : Int) < max 1 1; decide⟩
 refine { log := ?_, hd := ?_, st := fun h0 => absurd h0 (by show ¬ (1 : Int) = 0; decide), st2 := fun e => by simp at e, zs := ?_, cu := .inr rfl, kd := ?_, its := ?_, bls := ?_, tn := ?_, nm := ?_, zl := ?_, zm := h.zm }
 ·refine (h.log.agr hP fun x ⟨s, off, a, b, e, f, g⟩ => ?_).app (.turn (v := (n : Int)) hf ?_ hnx ⟨by omega, by show (n : Int) ≤ 7; omega⟩ ?_ hPn hhead (.nil _))
  ·rw [e]
   exact keep s off a b (fun k => by have := g k; omega) (fun k => absurd f (k ▸ hu))
  ·rw [hq]
   show z.p.o < z.p.o + 1
   omega
  ·intro x h1 h2
   rw [hq] at h1 h2
   have h2' : x < c8.at_ z.p.s + (z.p.o + 1) := h2
   exact ⟨z.p.s, z.p.o, hzs, hzo, by omega, .inl h.cu, fun k => absurd k.symm hns⟩
 ·intro hp0 _
  obtain ⟨a, b⟩ := h.hd hp0 (by omega)
  obtain ⟨s, off, b1, b2, b3, b4, b5⟩ := b
  obtain ⟨k1, k2⟩ := keep s off b1 b2 (fun k => by have := b5 k; omega) (fun k => absurd b4 (k ▸ hu))
  rw [← b3] at k1 k2
  exact ⟨⟨k1.trans a.e, k2.trans a.r, a.may⟩, hP _ ⟨s, off, b1, b2, b3, b4, b5⟩⟩
 ·intro s off a b e
  have e' : ¬ (U s ∨ s = (n : Int)) ∨ (s = (n : Int) ∧ 1 ≤ off) := e
  rw [(keep s off a b (fun k => by
    rcases e' with e' | e'
    ·exact absurd (.inl (k ▸ h.cu)) e'
    ·exact absurd (e'.1.symm.trans k) hns) (fun k => by
    rcases e' with e' | e'
    ·exact absurd (.inr k) e'
    ·omega)).2]
  refine h.zs s off a b (.inl ?_)
  rcases e' with e' | e'
  ·exact fun hu => e' (.inl hu)
  ·rw [e'.1]
   exact hu
 ·intro x hx
  rcases List.mem_append.1 hx with hx | hx
  ·exact h.kd x hx
  ·rw [List.mem_singleton.1 hx]
   exact .inr ⟨⟨_, rfl⟩, rfl⟩
 ·rw [List.flatMap_append, ← h.its, hi]
  show (_ ++ []) ++ [] = _
  rw [List.append_nil]
 ·rw [List.flatMap_append, ← h.bls, hb]
  show (_ ++ []) ++ [] = _
  rw [List.append_nil]
 ·rw [List.countP_append, h.tn]
  rfl
 ·intro j x hx
  by_cases hj : j < l.length
  ·rw [List.getElem?_append_left hj] at hx
   exact h.nm j x hx
  ·obtain rfl : j = l.length := by
    by_cases e : j = l.length
    ·exact e
    ·rw [List.getElem?_eq_none (by rw [List.length_append]; simp; omega)] at hx
     cases hx
   rw [List.getElem?_append_right (Nat.le_refl _), Nat.sub_self] at hx
   obtain rfl := Option.some.inj hx
   exact ⟨h.zl, h.zm⟩
 ·show z.p.l + 1 = _
  rw [h.zl, List.length_append]
  simp
  omega
theorem LI.rch (hz : Hw c8 z) (hl : z.p.l ≤ 2147483640) (h : LI (nzs z) p l its bls tn z) {dn : Nat} (hr : Rch dn z y) (hop : nzs y y.p.s) : ∃ l', LI (nzs y) p l' its bls (tn + dn) y := by
 rcases hr with ⟨rfl, rfl⟩ | ⟨rfl, hn, e⟩ | ⟨rfl, n, x, n8, nf, hg, he, hx, xi, xb, xo, xs, xl, e⟩
 ·exact ⟨l, h⟩
 ·exact ⟨_, (h.emit hz (by omega) hn e).mono fun s hs => emit_nz hz (by omega) hn e hs⟩
 ·have h0 := h.grab (z.t.grab n)
  have hn0 : ∀ s, nzs z s → nzs ({ z with t := z.t.grab n } : Wr) s := fun s hs => grab_nz hs
  have h1 : (∃ l', LI (nzs z) p l' its bls tn x) ∧ ∀ s, nzs z s → nzs x s := by
   rcases he with ⟨rfl, _⟩ | ⟨hne, e1⟩
   ·exact ⟨⟨l, h0⟩, hn0⟩
   ·exact ⟨⟨_, h0.emit hg (by show z.p.l ≤ _; omega) hne e1⟩, fun s hs => emit_nz hg (by show z.p.l ≤ _; omega) hne e1 (hn0 s hs)⟩
  obtain ⟨⟨l', h1⟩, h2⟩ := h1
  refine ⟨_, (h1.turn hx (by omega) (by omega) xi xb n8 (by unfold nzs; rw [Int.toNat_natCast, nf]; simp) e).mono fun s hs => ?_⟩
  rcases hs with hs | hs
  ·exact turn_nz hx (by omega) (by omega) n8 e (h2 s hs)
  ·obtain ⟨d, t1, _⟩ := hx.turn (s := (n : Int)) ⟨by omega, by show (n : Int) ≤ 7; omega⟩ (by omega) (by omega)
   rw [t1] at e
   obtain rfl := (Prod.mk.inj e).1
   rw [hs]
   exact hop
end
end Go.Kn
namespace Go.Kn
open Go Go.RowKit
section
variable {p : Ps} {l : List (Ps × Rc)} {its : List It} {bls : List (List UInt8)} {tn : Nat} {z : Wr} {U : Int → Prop} {pot q2 : Int}
/-- nothing follows where the writer stands -/
theorem LI.none_ (h : LI U p l its bls tn z) (hz : Hw c8 z) : follow z.d c8 (at1 z.p) = (none, 0) ∨ z.p.o = 0 := by
 by_cases h0 : z.p.o = 0
 ·exact .inr h0
 ·left
  have hzs : 0 ≤ z.p.s ∧ z.p.s ≤ 7 := hz.s
  have hzo : 0 ≤ z.p.o ∧ z.p.o ≤ 23 := hz.o
  have hat := at8 hzs
  have hlen : (z.d.safe.length : Int) = 202 := hz.len
  have hq : at1 z.p = z.p := by
   unfold at1
   rw [show max z.p.o 1 = z.p.o from by omega]
  rw [hq]
  exact follow_zero (hz.rdy.err0 (has_of (by rw [hat]; omega) (by rw [hat]; omega))) (h.zs z.p.s z.p.o hzs hzo (.inr ⟨rfl, Int.le_refl _⟩))
theorem LI.start {p : Ps} {t : Tb} (hs : 0 ≤ p.s ∧ p.s ≤ 7) (hU : U p.s) : LI U p [] [] [] 0 ⟨Dk.new 202, t, p, [], []⟩ := by
 have hzs : ∀ s off : Int, 0 ≤ s ∧ s ≤ 7 → 0 ≤ off ∧ off ≤ 23 → (Dk.new 202).read (c8.at_ s + off) = List.replicate 64 0 := by
  intro s off hs ho
  have ha := at8 hs
  exact read_new 202 _ (by decide) (by rw [ha]; omega) (by rw [ha]; omega)
 exact { log := .nil _, hd := fun h0 h1 => absurd h0 h1, st := fun _ => ⟨rfl, rfl⟩, st2 := fun _ => rfl, zs := fun s off hs ho _ => hzs s off hs ho, cu := hU, kd := by simp, its := rfl, bls := rfl, tn := rfl, nm := by simp, zl := by simp, zm := rfl }
theorem LI.head (h : LI U p l its bls tn z) {x : Ps × Rc} (hx : x ∈ l) : ∃ i js, x.2.its = i :: js ∧ (isNx x = true → i.k = 7 ∧ js = []) ∧ (isNx x = false → i.k ≠ 7) := by
 rcases h.kd x hx with ⟨h1, h2⟩ | ⟨⟨v, h1⟩, h2⟩
 ·cases hi : x.2.its with
  | nil => exact absurd hi h1
  | cons i js =>
   have hk := h2 i (by rw [hi]; simp)
   refine ⟨i, js, rfl, fun e => ?_, fun _ => hk⟩
   unfold isNx at e
   rw [hi] at e
   exact absurd (of_decide_eq_true e) hk
 ·refine ⟨⟨7, 0, 0, v⟩, [], h1, fun _ => ⟨rfl, rfl⟩, fun e => ?_⟩
  unfold isNx at e
  rw [h1] at e
  simp at e
theorem LI.add (hz : PI tn pot z) (hp : pot ≤ 400) (h : LI (nzs z) p l its bls tn z) {dn : Nat} {y : Wr} {i : It} {b : List UInt8} (hy : PI (tn + dn) q2 (y.put i b)) (hr : Rch dn z y) : ∃ l', LI (nzs (y.put i b)) p l' (its ++ [i]) (bls ++ if i.loaded = true then [b] else []) (tn + dn) (y.put i b) := by
 have hl := hz.l
 have ht := hz.tn7
 have hop : y.t.sts.getD y.p.s.toNat 0 = 1 := hy.op
 obtain ⟨l', h1⟩ := h.rch hz.h (by omega) hr (by unfold nzs; rw [hop]; decide)
 exact ⟨l', h1.put⟩
theorem LI.emitP (hz : PI tn pot z) (hp : pot ≤ 400) (h : LI (nzs z) p l its bls tn z) : ∃ y l', z.emit c8 = (y, 0) ∧ PI tn pot y ∧ y.its = [] ∧ y.bl = [] ∧ LI (nzs y) p l' its bls tn y := by
 have hl := hz.l
 have ht := hz.tn7
 by_cases hn : z.its = []
 ·have hb := bl_le hz.h
  rw [hn] at hb
  exact ⟨z, l, hz.h.emit0 hn, hz, hn, List.length_eq_zero_iff.1 (Nat.le_zero.1 hb), h⟩
 ·obtain ⟨y, e1, e2, e3, e4, _⟩ := hz.emit hp hn
  exact ⟨y, _, e1, e2, e3, e4, (h.emit hz.h (by omega) hn e1).mono fun s hs => emit_nz hz.h (by omega) hn e1 hs⟩
theorem LI.few (hz : PI tn pot z) (hp : pot ≤ 200) (h : LI U p l its bls tn z) (h1 : 1 ≤ p.l) : l.length ≤ 200 := by
 have hl := hz.l
 have ht := hz.tn7
 have := h.zl
 omega
end
end Go.Kn
namespace Go.Proofs.YtgcfdjcpcclcjaaGreat
open Go Go.RowKit Go.Kn
section
variable {w0 w w' : World} {k : Zp} {z : Wr} {L : List (Nat × List Value)} {G : List Gs} {F : List (World → Prop)}
theorem zi_chnew (h : ZI w0 w k z L G F) (q : Ps) :
  Calls Tryz.prog 56 #[.pointer (some ⟨k.p.D, 0, none⟩), .pointer (some ⟨k.gb, 0, none⟩), .agg #[.int .i64 q.s, .int .i64 q.o, .int .i64 q.l, .int .i64 q.p, .int .i64 q.m]] w fun en w' => ∃ C, en = .returned (.pointer (some ⟨C, 0, none⟩)) ∧ ZI w0 w' k z ((C, CB k.p.D k.gb q q 0) :: L) G F := by
 obtain ⟨hq, A, c, B, m, sl, h⟩ := h
 refine (duo_chnew h k.gb q).mono ?_
 rintro en w1 ⟨C, rfl, h1⟩
 exact ⟨C, rfl, hq, A, c, B, m, sl, h1.permL (perm_any (fun c => by simp only [TD.L, List.map_cons, List.sum_cons]; omega))⟩
theorem zi_walk15 (q en0 : Ps) {er : Int} {C : Nat} (h : ZI w0 w k z ((C, CB k.p.D k.gb q en0 er) :: L) G F) (hm : (chainR z.d c8 q).1.length ≤ 299) :
  Calls Tryz.prog 69 #[.pointer (some ⟨C, 0, none⟩)] w fun en w' => ∃ (xs : List Fnd) (A : Option Addr) (c : Nat) (fs : List (World → Prop)), en = .returned (.slice A xs.length c) ∧ xs.map Fnd.pr = (chainR z.d c8 q).1 ∧ (∀ y ∈ xs, y.fct ∈ fs) ∧
   ZI w0 w' k z ((C, CB k.p.D k.gb q (chainR z.d c8 q).2.1 (chainR z.d c8 q).2.2) :: L) (⟨56, 5, .slice A xs.length c, xs.length, rrV xs⟩ :: G) (fs ++ F) := by
 obtain ⟨hq, A, c, B, m, sl, h⟩ := h
 have h1 := h.permL (L' := (C, CB k.p.D k.gb q en0 er) :: (k.W, WB k.p.D k.gb k.q.T z.p (.slice A z.its.length c) (.slice B z.bl.length m)) :: k.q.L z.t ((k.Z, k.box) :: L)) (perm_any (fun c => by simp only [TD.L, List.map_cons, List.sum_cons]; omega))
 obtain ⟨L0, G0, F0, hw, hd, back⟩ := h1.dk
 refine (walk15_any w0 w C k.gb k.p z.d c8 q en0 er _ (_ ++ L0) (_ ++ G0) (_ ++ F0) (Wk.start hw) (hd.mono (fun x hx => List.mem_append_right _ hx)) (List.mem_append_left _ (List.mem_cons_of_mem _ List.mem_cons_self)) c8ok (chEnds_some_k z.d c8 q) hm).mono ?_
 rintro en w1 ⟨xs, A9, c9, fs, rfl, hxs, hfs, hw1⟩
 have h2 := back w1 ⟨(C, CB k.p.D k.gb q (chainR z.d c8 q).2.1 (chainR z.d c8 q).2.2) :: _, _ :: _, fs ++ _⟩ (by have := hw1.toWc; rw [← List.append_assoc] at this; exact this)
 refine ⟨xs, A9, c9, fs, rfl, hxs, hfs, hq, A, c, B, m, sl, ?_⟩
 refine ((Duo.permG h2 (List.perm_middle (l₁ := [_, _])).symm).permL (perm_any (fun c => by simp only [TD.L, List.map_cons, List.sum_cons]; omega))).subF fun f hf => ?_
 simp only [List.mem_cons, List.mem_append] at hf ⊢
 rcases hf with hf | hf | hf | hf
 ·exact .inr (.inl hf)
 ·exact .inr (.inr (.inl hf))
 ·exact .inl hf
 ·exact .inr (.inr (.inr hf))
end
end Go.Proofs.YtgcfdjcpcclcjaaGreat
namespace Go.Kn
open Go Go.RowKit
theorem Bls.app {w : World} {s1 : List (Option Addr × Nat × Nat)} {b1 : List (List UInt8)} (h1 : Bls w s1 b1) : ∀ {s2 : List (Option Addr × Nat × Nat)} {b2 : List (List UInt8)}, Bls w s2 b2 → Bls w (s1 ++ s2) (b1 ++ b2) := by
 intro s2 b2 h2
 refine ⟨by rw [List.length_append, List.length_append, h1.1, h2.1], fun i hi hj => ?_⟩
 by_cases hl : i < s1.length
 ·have hb : i < b1.length := by rw [← h1.1]; exact hl
  have := h1.2 i hl hb
  rw [List.getElem_append_left hl, List.getElem_append_left hb]
  exact this
 ·rw [List.length_append] at hi hj
  have e := h1.1
  have hl2 : i - s1.length < s2.length := by omega
  have hb2 : i - b1.length < b2.length := by omega
  have := h2.2 (i - s1.length) hl2 (by omega)
  rw [List.getElem_append_right (by omega), List.getElem_append_right (by omega)]
  simp only [← e]
  exact this
/-- what is said of a slice of blocks, whatever becomes of M: it says which slices they are -/
theorem Blks.fix {w : World} {M : Nat → Prop} {A : Option Addr} {n c : Nat} {bl : List (List UInt8)} (h : Fc w M (fun W => Blks W A n c bl)) : ∃ sl, Fc w M (fun W => Row1 W A n c (sl.map slv) ∧ Bls W sl bl) := by
 obtain ⟨sl, h1, h2⟩ := h w (fun _ _ _ h _ => h)
 refine ⟨sl, fun W hW => ?_⟩
 obtain ⟨sl', h3, h4⟩ := h W hW
 have hl : sl.length = n := by have := h1.len; rwa [List.length_map] at this
 have hl' : sl'.length = n := by have := h3.len; rwa [List.length_map] at this
 have e : sl' = sl := by
  by_cases hn : 0 < n
  ·obtain ⟨g, o, hA, hc⟩ := h1.at_ hn
   obtain ⟨g', o', hA', hc'⟩ := h3.at_ hn
   rw [hA] at hA'
   injection hA' with hA'
   injection hA' with e1 e2
   subst e1 e2
   have hc0 := hc 0 (by rw [List.length_map]; omega)
   obtain ⟨ob, hg, hgc⟩ := cells_of_cell hc0
   have hg : w.heap[g]? = some ob := hg
   have hgl := lt_of_obj hg
   have hM : ¬ M g := by
    intro hm
    obtain ⟨sl2, h5, _⟩ := h (w.putObj g (.cells #[] 0)) (fun k o hk hko _ => (World.putObj_heap_other (by rintro rfl; exact hk hm)).trans hko)
    obtain ⟨g2, o2, hA2, hc2⟩ := h5.at_ hn
    rw [hA] at hA2
    injection hA2 with hA2
    injection hA2 with e1 e2
    subst e1 e2
    have hl2 : sl2.length = n := by have := h5.len; rwa [List.length_map] at this
    have h6 := hc2 0 (by rw [List.length_map]; omega)
    have h7 : (w.putObj g (.cells #[] 0)).heap[g]? = some (.cells #[] 0) := by
     simp [World.putObj, hgl]
    unfold World.cell? at h6
    simp [h7] at h6
   have hWg := hW g _ hM hg hgc
   refine List.ext_getElem (by omega) fun i hi hj => ?_
   have a := hc i (by rw [List.length_map]; omega)
   have b := hc' i (by rw [List.length_map]; omega)
   rw [World.cell?_of_block (w := w) (w' := W) (a := ⟨g, o + i, none⟩) (hWg.trans hg.symm), a] at b
   simp only [List.getElem_map] at b
   injection b with b
   simp only [slv] at b
   injection b with b1 b2 b3
   exact Prod.ext b1.symm (Prod.ext b2.symm b3.symm)
  ·rw [List.eq_nil_of_length_eq_zero (by omega : sl.length = 0), List.eq_nil_of_length_eq_zero (by omega : sl'.length = 0)]
 subst e
 exact ⟨h3, h4⟩
/-- nothing was laid: nothing is told -/
theorem told_zero {d : Dk} {p : Ps} (hs : 0 ≤ p.s ∧ p.s ≤ 7) (ho : p.o = 0) (he : d.err (c8.at_ p.s) = 0) (hz : d.read (c8.at_ p.s) = List.replicate 64 0) : chainR d c8 p = ([], p, 0) := by
 have hd : decHead (d.read (c8.at_ p.s)) = none := by
  rw [hz]
  exact decHead_signs (by simp)
 have e : scanR d c8 false p = ([], p, 0) := by
  have eB : scanB d c8 false p = (p, false, 0) := by
   unfold scanB
   rw [if_pos ⟨hs, by rw [ho]; decide, by rw [ho]; decide⟩, if_neg (show ¬ 0 < p.o from by omega), if_pos he, hd]
  unfold scanR
  rw [eB]
  rfl
 unfold chainR
 rw [chainG_M, e]
 rfl
theorem LI.told0 {U : Int → Prop} {p : Ps} {l : List (Ps × Rc)} {its : List It} {bls : List (List UInt8)} {tn : Nat} {z : Wr} (h : LI U p l its bls tn z) (hz : Hw c8 z) (hp : p.o = 0) (hs : 0 ≤ p.s ∧ p.s ≤ 7) (hl : p.l ≤ 1000) (hn : l.length ≤ 1000) (hi : z.its = []) : chainR z.d c8 p = (l, z.p, 0) := by
 by_cases h0 : z.p.o = 0
 ·obtain ⟨s1, s2⟩ := h.st h0
  have hat := at8 hs
  have hlen : (z.d.safe.length : Int) = 202 := hz.len
  have hr := h.zs p.s 0 hs (by decide) (.inr ⟨by rw [s2], by rw [h0]; decide⟩)
  rw [Int.add_zero] at hr
  rw [s1, s2]
  exact told_zero hs hp (hz.rdy.err0 (has_of (by rw [hat]; omega) (by rw [hat]; omega))) hr
 ·obtain ⟨hh, _⟩ := h.hd hp h0
  have hzo : 0 ≤ z.p.o ∧ z.p.o ≤ 23 := hz.o
  have hq : at1 z.p = z.p := by
   unfold at1
   rw [show max z.p.o 1 = z.p.o from by omega]
  have hlog := h.log
  have hf := (h.none_ hz).resolve_right h0
  rw [hq] at hf hlog
  have hq0 : at1 p = ⟨p.s, 1, p.l, p.p, p.m⟩ := by
   unfold at1
   rw [hp]
   rfl
  rw [hq0] at hlog
  have := hlog.chain c8ok hf 65 (2147483648 - p.l).toNat (by decide) (by show (65 : Int) ≤ 65 + 1; decide) (by omega)
  obtain ⟨ps, po, pl, pp, pm⟩ := p
  simp only at hp
  subst hp
  unfold chainR
  rw [chainG_M, (hh.scan c8ok hs).1]
  exact this
end Go.Kn
namespace Go.Proofs.YtgcfdjcpcclcjaaGreat
open Go Go.RowKit Go.Kn
section
variable {w0 w w' : World} {k : Zp} {z : Wr} {L : List (Nat × List Value)} {G : List Gs} {F : List (World → Prop)}
theorem ZI.fuse (h : ZI w0 w k z L G F) {f1 f2 f : World → Prop} (h1 : f1 ∈ F) (h2 : f2 ∈ F) (hf : ∀ W, f1 W → f2 W → f W) : ZI w0 w k z L G (f :: F) := by
 obtain ⟨hq, A, c, B, m, sl, h⟩ := h
 obtain ⟨L0, G0, F0, hw, back⟩ := h.fr
 have hd := back w ⟨_, _, f :: (fun W => Bls W sl z.bl) :: GE8 k.gb :: F⟩ (hw.fuse (f := f) (List.mem_append_left _ (List.mem_cons_of_mem _ (List.mem_cons_of_mem _ h1))) (List.mem_append_left _ (List.mem_cons_of_mem _ (List.mem_cons_of_mem _ h2))) hf)
 refine ⟨hq, A, c, B, m, sl, hd.subF fun g hg => ?_⟩
 simp only [List.mem_cons] at hg ⊢
 rcases hg with h | h | h | h <;> simp [h]
theorem ZI.fixB (h : ZI w0 w k z L G F) {r : Rc} {s t : Option Addr × Nat × Nat} (hf : (fun W => RcAt W r s t) ∈ F) : ∃ sl, ZI w0 w k z L G ((fun W => Row1 W t.1 t.2.1 t.2.2 (sl.map slv) ∧ Bls W sl r.bl) :: F) := by
 obtain ⟨hq, A, c, B, m, sl, h⟩ := h
 obtain ⟨L0, G0, F0, hw, back⟩ := h.fr
 have hm := hw.fx _ (List.mem_append_left F0 (List.mem_cons_of_mem (fun W => Bls W sl z.bl) (List.mem_cons_of_mem (GE8 k.gb) hf)))
 obtain ⟨s9, h9⟩ := Blks.fix (fun W hW => (hm W hW).2)
 have hd := back w ⟨_, _, (fun W => Row1 W t.1 t.2.1 t.2.2 (s9.map slv) ∧ Bls W s9 r.bl) :: (fun W => Bls W sl z.bl) :: GE8 k.gb :: F⟩ (hw.addF _ h9)
 refine ⟨s9, hq, A, c, B, m, sl, hd.subF fun g hg => ?_⟩
 simp only [List.mem_cons] at hg ⊢
 rcases hg with h | h | h | h <;> simp [h]
theorem ZI.its (h : ZI w0 w k z L G F) (i : Nat) {n c : Nat} {A : Option Addr} {l : List It} (hi : G[i]? = some ⟨63, 4, .slice A n c, n, itsV l⟩) (hl : l.length = n) : Its w A n c l := by
 obtain ⟨hq, A9, c9, B, m, sl, h⟩ := h
 obtain ⟨L0, G0, F0, hw, back⟩ := h.fr
 obtain ⟨A2, c2, hv, hi2, _⟩ := (hw.gath (x := ⟨63, 4, .slice A n c, n, itsV l⟩) (List.mem_append_left _ (List.mem_cons_of_mem _ (List.mem_cons_of_mem _ (List.mem_of_getElem? hi))))).its hl
 injection hv with h1 h2 h3
 subst h1 h3
 exact hi2
theorem ZI.row (h : ZI w0 w k z L G F) (i : Nat) {t n c : Nat} {A : Option Addr} {xs : List Value} (hi : G[i]? = some ⟨t, 1, .slice A n c, n, xs⟩) : Row1 w A n c xs := (Row1.of_owns (h.gi i hi)).1
theorem zi_chend {C : Nat} {q en : Ps} {er : Int} (h : ZI w0 w k z ((C, CB k.p.D k.gb q en er) :: L) G F) :
  Calls Tryz.prog 58 #[.pointer (some ⟨C, 0, none⟩)] w fun e' w' => e' = .returned (.agg #[.int .i64 en.s, .int .i64 en.o, .int .i64 en.l, .int .i64 en.p, .int .i64 en.m]) ∧ Only [] w w' := chain_end_any w C k.p.D k.gb q en er (h.box (x := (C, CB k.p.D k.gb q en er)) List.mem_cons_self)
end
end Go.Proofs.YtgcfdjcpcclcjaaGreat
namespace Go.Proofs.YtgcfdjcpcclcjaaGreat
open Go Go.RowKit Go.Kn
theorem slv_new15 (w : World) (s : Option Addr × Nat × Nat) : Row1 (w.alloc (.cells #[slv s] 47)) (some ⟨w.heap.size, 0, none⟩) 1 1 ([s].map slv) := by
 have := Kn.Own.new w #[slv s] 47
 exact Row1.of_Own this rfl (Nat.le_refl _) (by decide)
theorem it_one15 (ik ib ic iv : Int) : ∀ u ∈ ([.int .i64 ik, .int .i64 ib, .int .i64 ic, .int .i64 iv] : List Value), u.oneCell' = true := by
 intro u hu
 simp only [List.mem_cons, List.mem_nil_iff, or_false] at hu
 rcases hu with rfl | rfl | rfl | rfl <;> rfl
theorem its_add15 (l : List It) (ik ib ic iv : Int) : itsV (l ++ [⟨ik, ib, ic, iv⟩]) = itsV l ++ [.int .i64 ik, .int .i64 ib, .int .i64 ic, .int .i64 iv] := by
 rw [itsV_append]
 rfl
theorem flat_len {α β : Type} (l : List α) (f : α → List β) (i : Nat) : ((l.take i).flatMap f).length ≤ (l.flatMap f).length := by
 conv => rhs; rw [← List.take_append_drop i l]
 rw [List.flatMap_append, List.length_append]
 omega
set_option maxRecDepth 100000 in
set_option maxHeartbeats 16000000 in
theorem back15_any (A : Option Addr) (n c : Nat) (l : List Int) (e0 : Int) (w : World) (hl : Ins w A n c l) (hw : ∀ x ∈ l, (Lit.int .i64 x).wf = true) (he0 : (Lit.int .i64 e0).wf = true) : Calls Tryz.prog 12 #[.slice A n c, .int .i64 e0] w fun e w' => e = .returned (.bool true) ∧ Only [] w w' := by
 have hln : l.length = n := by
  have := hl.len
  rwa [ivs, List.length_map] at this
 have hnm := Nat.le_trans hl.le hl.cm
 unfold maxLen at hnm
 have HLN := Lib.hid hln
 have HLW := Lib.hid hw
 have H1 := Lib.hid (((Wc.start w).old (f := fun W => Ins W none 0 0 []) (fun W _ => Row1.nil W)).old (f := (fun W => Ins W A n c l)) (Row1.fc hl (fun _ _ _ => id)))
 clear hl hw hln he0
 by_cases hn : (n : Int) > 60
 ·go_enter Tryz.func12, Tryz.ntmps12
  go_wp2_with fail
  refine (awake15_any _).mono ?_
  rintro en w9 ⟨rfl, hO⟩
  have HO := Lib.hid hO
  clear hO
  go_wp2
  go_ret
  exact ⟨rfl, HO.out⟩
 have hn60 : n ≤ 60 := by omega
 have H2 := Lib.hid (H1.out.newB #[.int .i64 2, .int .i64 0, .int .i64 9, .int .i64 4, .int .i64 3] 32 rfl)
 clear H1
 go_enter Tryz.func12, Tryz.ntmps12
 go_upto_region 4 with (fail)
 generalize hvz : w.alloc (.cells #[.int .i64 2, .int .i64 0, .int .i64 9, .int .i64 4, .int .i64 3] 32) = w1 at *
 generalize w.heap.size = f5 at *
 clear hvz
 have HY := Lib.hid H2.out.drew
 clear H2
 refine wp_region_held_drew (S := (fun w' => Kn.Own w' f5 [.int .i64 2, .int .i64 0, .int .i64 9, .int .i64 4, .int .i64 3])) (by kernel_rfl) (HY.out.boxi 0 rfl) (fun hSw0 => ?_)
 generalize w1.drew = wz at *
 refine Kn.takeS 1 ⟨some 29, _, _, _, _, _⟩ (v := (.agg #[.int .i64 2, .int .i64 0, .int .i64 9, .int .i64 4, .int .i64 3])) (hy := fun w hSw => by
  obtain ⟨q0, q1, q2, q3, q4⟩ := own5 hSw
  go_simp) ?_
 refine Kn.takeR 0 ⟨some 28, _, _, _, _, _⟩ fun K hK => ?_
 go_simp
 refine (small15_any _).mono ?_
 rintro en w3 ⟨rfl, hO⟩
 have HYs := Lib.hid (HY.out.keep0 hO)
 clear hO
 clear HY
 refine hK.out _ _ (HYs.out.boxi 0 rfl) (fun hSn => ?_)
 clear hK K hSw0
 have hSw0 := hSn
 clear hSn
 refine Kn.takeR 2 ⟨some 30, _, _, _, _, _⟩ fun K hK => ?_
 go_simp
 refine (made8_any' w _ (⟨2, 0, 9, 4, 3⟩ : Ps) none 0 0 [] ⟨[(f5, [.int .i64 2, .int .i64 0, .int .i64 9, .int .i64 4, .int .i64 3])], [], [(fun W => Ins W A n c l), (fun W => Ins W none 0 0 [])]⟩ HYs.out (List.mem_cons_of_mem _ List.mem_cons_self) (by decide) rfl (by simp) rfl).mono ?_
 rintro en w4 ⟨k, L', rfl, hL, hd⟩
 have HLL := Lib.hid hL
 have HYsm := Lib.hid hd
 clear hd hL
 clear HYs
 refine hK.out _ _ (HYsm.out.box (x := (f5, [.int .i64 2, .int .i64 0, .int .i64 9, .int .i64 4, .int .i64 3])) (HLL.out _ List.mem_cons_self)) (fun hSn => ?_)
 clear hK K hSw0
 have hSw0 := hSn
 clear hSn
 refine Kn.takeS 3 ⟨some 27, _, _, _, _, _⟩ ?_
 refine Kn.takeS 4 ⟨some 31, _, _, _, _, _⟩ ?_
 refine Kn.takeS 5 ⟨some 32, _, _, _, _, _⟩ ?_
 refine Kn.takeS 6 ⟨some 6, _, _, _, _, _⟩ ?_
 refine Kn.takeS 7 ⟨some 7, _, _, _, _, _⟩ ?_
 refine wpAnyH_done (by kernel_rfl) ?_ _
 clear hSw0
 obtain ⟨z0, hz0⟩ : ∃ z, (⟨Dk.new 202, tbMade 8 c8 2 [], (⟨2, 0, 9, 4, 3⟩ : Ps), [], []⟩ : Wr) = z := ⟨_, rfl⟩
 have hs0 : PI 0 1 z0 := by
  rw [← hz0]
  exact { h := Hw.start c8ok _ rfl, ok := tbMade_ok 8 c8 2 [], op := by decide, f0 := by decide, f2 := by decide, pt := by decide, l := by decide, held := by decide }
 have hl0 : LI (nzs z0) (⟨2, 0, 9, 4, 3⟩ : Ps) [] [] [] 0 z0 := by
  rw [← hz0]
  exact LI.start (p := (⟨2, 0, 9, 4, 3⟩ : Ps)) (by decide) (by show (tbMade 8 c8 2 []).sts.getD 2 0 ≠ 0; decide)
 have hd : ZI w w4 k z0 L' [] [(fun W => Ins W A n c l), (fun W => Ins W none 0 0 [])] := by
  rw [← hz0]
  exact HYsm.out
 have HX := Lib.hid (((hd.addFc (Only.refl _ _) (f := fun W => Bls W [] []) (fun W _ => Kn.Bls.nil W)).gnew 47 1).gnew 63 4)
 have HS0 := Lib.hid hs0
 have HL0 := Lib.hid hl0
 have cw := hd.zbox.cellv 8
 clear hd hs0 hz0 hl0 HYsm
 go_wp2_with fail
 go_loopg [8, 9, 10] n (fun rr t8 t9 t10 wr => ∃ (j tn mb : Nat) (z : Wr) (ll : List (Ps × Rc)) (its : List It) (bls : List (List UInt8)) (sl : List (Option Addr × Nat × Nat)) (A8 A9 : Option Addr) (c8a c9a : Nat), j + rr = n ∧ t8 = .slice A8 j c8a ∧ t9 = .slice A9 mb c9a ∧ t10 = .int .i64 (j : Int) ∧ its.length = j ∧ sl.length = mb ∧ mb ≤ j ∧ PI tn (1 + 2 * (j : Int)) z ∧ LI (nzs z) (⟨2, 0, 9, 4, 3⟩ : Ps) ll its bls tn z ∧ ZI w wr k z L' [⟨63, 4, .slice A8 j c8a, j, itsV its⟩, ⟨47, 1, .slice A9 mb c9a, mb, sl.map slv⟩] ((fun W => Bls W sl bls) :: [(fun W => Ins W A n c l), (fun W => Ins W none 0 0 [])]))
 case atStart => exact ⟨0, 0, 0, z0, [], [], [], [], none, none, 0, 0, by omega, rfl, rfl, rfl, rfl, rfl, by omega, HS0.out, HL0.out, HX.out⟩
 clear HX HS0 HL0 cw
 obtain ⟨j, tn, mb, z, ll, its, bls, sl, A8, A9, c8a, c9a, hj, rfl, rfl, rfl, hil, hsl, hmb, hpi, hli, hd⟩ := hrel
 have HR := Lib.hid hd
 have HPI := Lib.hid hpi
 have HLI := Lib.hid hli
 have HIL := Lib.hid hil
 have HSL := Lib.hid hsl
 clear hd hpi hli hil hsl
 by_cases hlt : j < n
 ·have hlt2 : (j : Int) < (n : Int) := by omega
  have hjl : j < l.length := by rw [HLN.out]; exact hlt
  obtain ⟨x, hx⟩ : ∃ x, l[j] = x := ⟨_, rfl⟩
  have HXW := Lib.hid (HLW.out x (by rw [← hx]; exact List.getElem_mem hjl))
  obtain ⟨g, o, rfl, hc0⟩ := (HR.out.fact (f := (fun W => Ins W A n c l)) (by simp)).at_ (by omega)
  have cy := hc0 j (by rw [ivs, List.length_map]; exact hjl)
  have cx : wr.cell? ⟨g, o + j, none⟩ = some (.int .i64 x) := by rw [cy, ← hx]; simp [ivs]
  clear hx hc0 cy
  have HB := Lib.hid (PI.bnd HPI.out (by omega))
  obtain ⟨hvok, hkd⟩ := kd_ok (l := x) (i := (j : Int)) (by omega)
  obtain ⟨⟨ik, ib, ic, iv⟩, hit⟩ : ∃ it, kdI x (j : Int) = it := ⟨_, rfl⟩
  obtain ⟨b, hbb⟩ : ∃ b, kdB x (j : Int) = b := ⟨_, rfl⟩
  rw [hit, hbb] at hvok hkd
  have HIT := Lib.hid hit
  have HBB := Lib.hid hbb
  clear hit hbb
  obtain ⟨dn, y0, hA, hpi2, hyw, hyo, hrch⟩ := HPI.out.add (sp := false) hvok (.inr (by omega))
  obtain ⟨ll2, hli2⟩ := HLI.out.add HPI.out (by omega) hpi2 hrch
  obtain ⟨ya, hya⟩ : ∃ a, y0.at_ c8 (⟨ik, ib, ic, iv⟩ : It) = a := ⟨_, rfl⟩
  rw [hya] at hA
  obtain ⟨y, hy⟩ : ∃ y, y0.put (⟨ik, ib, ic, iv⟩ : It) b = y := ⟨_, rfl⟩
  rw [hy] at hA hpi2 hli2
  have HA := Lib.hid hA
  have HPI2 := Lib.hid hpi2
  have HLI2 := Lib.hid hli2
  have HB2 := Lib.hid (PI.bnd hpi2 (by omega))
  obtain ⟨y2, ll3, he, hp3, hi3, hb3, hl3⟩ := hli2.emitP hpi2 (by omega)
  have HEM := Lib.hid he
  have HP3 := Lib.hid hp3
  have HL3 := Lib.hid hl3
  clear he hp3 hi3 hb3 hl3 hA hpi2 hli2 hyw hyo hrch hvok HPI HLI hy hya
  go_wp2_with fail
  refine (kinds_eq HXW.out (by omega) HIT.out HBB.out).mono ?_
  rintro en w3 ⟨Ab, nb, cb, rfl, hn64, hnb, hfc, hO⟩
  have HN64 := Lib.hid hn64
  have HNB := Lib.hid hnb
  have H2 := Lib.hid ((HR.out.addFc hO hfc).newB #[.int .i64 ik, .int .i64 ib, .int .i64 ic, .int .i64 iv] 63 rfl)
  clear hO hfc HR cx hn64 hnb
  go_upto_region 13 with (fail)
  generalize hvz : w3.alloc (.cells #[.int .i64 ik, .int .i64 ib, .int .i64 ic, .int .i64 iv] 63) = w4 at *
  generalize w3.heap.size = f8 at *
  clear hvz
  have HY := Lib.hid H2.out.drew
  clear H2
  refine wp_region_held_drew (S := (fun w' => Kn.Own w' k.Z k.box ∧ Kn.Own w' f8 [.int .i64 ik, .int .i64 ib, .int .i64 ic, .int .i64 iv])) (by kernel_rfl) ⟨HY.out.zbox, HY.out.box (x := (f8, [.int .i64 ik, .int .i64 ib, .int .i64 ic, .int .i64 iv])) List.mem_cons_self⟩ (fun hSw0 => ?_)
  generalize w4.drew = wz at *
  refine Kn.takeS 0 ⟨some 58, _, _, _, _, _⟩ ?_
  refine Kn.takeS 1 ⟨some 59, _, _, _, _, _⟩ ?_
  refine Kn.takeS 2 ⟨some 60, _, _, _, _, _⟩ ?_
  refine Kn.takeS 3 ⟨some 61, _, _, _, _, _⟩ (v := (.pointer (some ⟨k.W, 0, none⟩))) (hy := fun w hSw => by
   have q0 := hSw.1.cellv 8
   go_simp) ?_
  refine Kn.takeS 4 ⟨some 62, _, _, _, _, _⟩ (v := (.agg #[.int .i64 ik, .int .i64 ib, .int .i64 ic, .int .i64 iv])) (hy := fun w hSw => by
   obtain ⟨q0, q1, q2, q3⟩ := own4 hSw.2
   go_simp) ?_
  refine Kn.takeS 5 ⟨some 63, _, _, _, _, _⟩ ?_
  refine Kn.takeR 6 ⟨some 64, _, _, _, _, _⟩ fun K hK => ?_
  go_simp
  refine (zi_add_eq HY.out HB.out HA.out List.mem_cons_self (by have := HN64.out; omega)).mono ?_
  rintro en wa ⟨rfl, hd⟩
  have HYa := Lib.hid hd
  clear hd
  clear HY
  refine hK.out _ _ ⟨HYa.out.zbox, HYa.out.box (x := (f8, [.int .i64 ik, .int .i64 ib, .int .i64 ic, .int .i64 iv])) List.mem_cons_self⟩ (fun hSn => ?_)
  clear hK K hSw0
  have hSw0 := hSn
  clear hSn
  refine Kn.takeS 7 ⟨some 57, _, _, _, _, _⟩ ?_
  refine Kn.takeS 8 ⟨some 65, _, _, _, _, _⟩ ?_
  refine Kn.takeS 9 ⟨some 66, _, _, _, _, _⟩ ?_
  refine Kn.takeS 10 ⟨some 13, _, _, _, _, _⟩ ?_
  refine Kn.takeS 11 ⟨some 14, _, _, _, _, _⟩ ?_
  refine wpAnyH_done (by kernel_rfl) ?_ _
  clear hSw0
  obtain ⟨b0, b1, b2, b3⟩ := own4 (HYa.out.box (x := (f8, [.int .i64 ik, .int .i64 ib, .int .i64 ic, .int .i64 iv])) List.mem_cons_self)
  have HAL := Lib.hid (HYa.out.alloc (.cells #[.int .i64 ik, .int .i64 ib, .int .i64 ic, .int .i64 iv] 63))
  have HBS := Lib.hid HAL.out.only.size
  have HNW := Lib.hid (news_new wa #[.int .i64 ik, .int .i64 ib, .int .i64 ic, .int .i64 iv] 63 (by simp [maxLen]))
  have HON := Lib.hid (it_one15 ik ib ic iv)
  have HIA := Lib.hid (its_add15 its ik ib ic iv)
  have HIL2 : Hid ((its ++ [(⟨ik, ib, ic, iv⟩ : It)]).length = j + 1) := Lib.hid (by rw [List.length_append, HIL.out]; rfl)
  clear HYa
  obtain ⟨i0, hi0, hz0, hz1, hz2⟩ := info_parts Tryz.infoItem
  obtain ⟨i1, hi1, hy0, hy1, hy2⟩ := info_parts Tryz.infoBys
  go_upto_region 17 with (first
   | (at_builtin; (refine wpList_append_own_at _ rfl (.tmp 69) (.tmp 71) 53 rfl w.heap.size 63 i0 _ 4 32 Tryz.underlying53 hi0 hz0 hz1 hz2 rfl (by decide) (.slice A8 j c8a) j (itsV its) rfl (HAL.out.gi 0 rfl) ⟨wa.heap.size, 0, none⟩ 1 1 [.int .i64 ik, .int .i64 ib, .int .i64 ic, .int .i64 iv] rfl rfl HNW.out HON.out (by unfold maxLen; omega) (by omega) HBS.out ?_; intro v5 w5 hown5 hgrow5 _ hat5; rw [← HIA.out] at hown5; have hdd := HAL.out.gapp 0 rfl hown5 hgrow5 hat5; obtain ⟨A18, c18, rfl⟩ := hdd.gform 0 rfl; simp only [List.set_cons_zero, List.set_cons_succ] at hdd; have HE := Lib.hid hdd; clear hdd hown5 hgrow5 hat5 HAL HNW HON HBS))
   | fail)
  clear hi0 hz0 hz1 hz2 i0 HIA b0 b1 b2 b3
  rcases hkd with ⟨hld, hbf⟩ | ⟨hld, hbf⟩
  ·have hnb : nb = 64 := by rw [HNB.out, hbf, fillB_length]
   subst hnb
   have HAB := Lib.hid (HE.out.alloc (.cells #[slv (Ab, 64, cb)] 47))
   have HBB2 := Lib.hid HAB.out.only.size
   have HNR := Lib.hid (slv_new15 w5 (Ab, 64, cb))
   have hll2 := HLI2.out
   have hll3 := HL3.out
   rw [hbf, if_pos hld] at hll2 hll3
   rw [hbf] at HAB
   clear HE hld HLI2 HL3
   have HLI2 := Lib.hid hll2
   have HL3 := Lib.hid hll3
   clear hll2 hll3 hbf
   go_upto_region 19 with (first
    | (at_builtin; (refine wpList_append_row1 rfl (.tmp 76) (.tmp 78) 54 rfl w.heap.size 47 i1 _ 24 Tryz.underlying54 hi1 hy0 hy1 hy2 rfl (.slice A9 mb c9a) mb (sl.map slv) rfl (HAB.out.gi 1 rfl) (some ⟨w5.heap.size, 0, none⟩) 1 1 ([(Ab, 64, cb)].map slv) rfl HNR.out (slv_one _) (by unfold maxLen; omega) (by omega) HBB2.out ?_; intro v5 w6 hown5 hgrow5 hat5; rw [← List.map_append] at hown5; have hdd := HAB.out.gapp 1 rfl hown5 hgrow5 hat5; obtain ⟨A19, c19, rfl⟩ := hdd.gform 1 rfl; simp only [List.set_cons_zero, List.set_cons_succ] at hdd; have HF := Lib.hid hdd; clear hdd hown5 hgrow5 hat5 HAB HNR HBB2))
    | fail)
   clear hi1 hy0 hy1 hy2 i1
   have HSL2 : Hid ((sl ++ [(Ab, 64, cb)]).length = mb + 1) := Lib.hid (by rw [List.length_append, HSL.out]; rfl)
   have HFU := Lib.hid (((HF.out.fuse (f1 := (fun W => Bls W sl bls)) (f2 := fun W => Bys W Ab 64 cb (fillB (j : Int))) (f := fun W => Bls W (sl ++ [(Ab, 64, cb)]) (bls ++ [fillB (j : Int)])) (by simp) (by simp) (fun W h1 h2 => h1.snoc h2)).ldrop).subF (F' := (fun W => Bls W (sl ++ [(Ab, 64, cb)]) (bls ++ [fillB (j : Int)])) :: [(fun W => Ins W (some ⟨g, o, none⟩) n c l), (fun W => Ins W none 0 0 [])]) (fun f hf => by simp only [List.mem_cons, List.mem_nil_iff, or_false] at hf ⊢; rcases hf with hf | hf | hf <;> simp [hf]))
   have cw := HF.out.zbox.cellv 8
   clear HF
   go_wp2_with fail
   ·refine (zi_emit_eq HFU.out HB2.out HEM.out).mono ?_
    rintro en w9 ⟨rfl, hd⟩
    have HK := Lib.hid hd
    clear hd HFU cw
    go_wp2
    go_roundg (gk - 1)
    case measure => omega
    case rel => exact ⟨j + 1, tn + dn, (mb + 1), y2, ll3, _, _, (sl ++ [(Ab, 64, cb)]), A18, A19, c18, c19, by omega, rfl, rfl, by go_num, HIL2.out, HSL2.out, by omega, HP3.out.mono (by push_cast; omega), HL3.out, HK.out⟩
   ·go_roundg (gk - 1)
    case measure => omega
    case rel => exact ⟨j + 1, tn + dn, (mb + 1), y, ll2, _, _, (sl ++ [(Ab, 64, cb)]), A18, A19, c18, c19, by omega, rfl, rfl, by go_num, HIL2.out, HSL2.out, by omega, HPI2.out.mono (by push_cast; omega), HLI2.out, HFU.out⟩
  ·have hnb : nb = 0 := by rw [HNB.out, hbf]; rfl
   subst hnb
   have hll2 := HLI2.out
   have hll3 := HL3.out
   rw [if_neg (by rw [hld]; decide), List.append_nil] at hll2 hll3
   clear hld HLI2 HL3
   have HLI2 := Lib.hid hll2
   have HL3 := Lib.hid hll3
   have HFU := Lib.hid ((HE.out.ldrop).subF (F' := (fun W => Bls W sl bls) :: [(fun W => Ins W (some ⟨g, o, none⟩) n c l), (fun W => Ins W none 0 0 [])]) (fun f hf => by simp only [List.mem_cons, List.mem_nil_iff, or_false] at hf ⊢; rcases hf with hf | hf | hf <;> simp [hf]))
   have cw := HE.out.zbox.cellv 8
   clear hll2 hll3 hbf HE hi1 hy0 hy1 hy2 i1
   go_wp2_with fail
   ·refine (zi_emit_eq HFU.out HB2.out HEM.out).mono ?_
    rintro en w9 ⟨rfl, hd⟩
    have HK := Lib.hid hd
    clear hd HFU cw
    go_wp2
    go_roundg (gk - 1)
    case measure => omega
    case rel => exact ⟨j + 1, tn + dn, mb, y2, ll3, _, _, sl, A18, A9, c18, c9a, by omega, rfl, rfl, by go_num, HIL2.out, HSL.out, by omega, HP3.out.mono (by push_cast; omega), HL3.out, HK.out⟩
   ·go_roundg (gk - 1)
    case measure => omega
    case rel => exact ⟨j + 1, tn + dn, mb, y, ll2, _, _, sl, A18, A9, c18, c9a, by omega, rfl, rfl, by go_num, HIL2.out, HSL.out, by omega, HPI2.out.mono (by push_cast; omega), HLI2.out, HFU.out⟩
 ·obtain rfl : n = j := by omega
  have HB := Lib.hid (PI.bnd HPI.out (by omega))
  obtain ⟨y, ll2, he, hp3, hi3, hb3, hl3⟩ := HLI.out.emitP HPI.out (by omega)
  have hfew := hl3.few hp3 (by omega) (by show (1 : Int) ≤ 9; decide)
  have htold := hl3.told0 hp3.h rfl (by decide) (by show (9 : Int) ≤ 1000; decide) (by omega) hi3
  have hits : ll2.flatMap (fun x => x.2.its.filter no7) = its := by
   have := hl3.its
   rwa [hi3, List.append_nil] at this
  have hbls : ll2.flatMap (fun x => x.2.bl) = bls := by
   have := hl3.bls
   rwa [hb3, List.append_nil] at this
  have hy0 : y.its.length = 0 := by rw [hi3]; rfl
  have HE := Lib.hid he
  have HP3 := Lib.hid hp3
  have HL3 := Lib.hid hl3
  have HTD := Lib.hid htold
  have HFW := Lib.hid hfew
  have HIT := Lib.hid hits
  have HBL := Lib.hid hbls
  have HY0 := Lib.hid hy0
  clear he hp3 hi3 hb3 hl3 htold hfew HPI HLI hits hbls hy0
  have cw := HR.out.zbox.cellv 8
  go_wp2_with fail
  refine (zi_emit_eq HR.out HB.out HE.out).mono ?_
  rintro en w3 ⟨rfl, hd⟩
  have HX := Lib.hid hd
  clear hd HR cw HB HE
  have cw := HX.out.zbox.cellv 8
  go_wp2_with fail
  refine (zi_waiting HX.out).mono ?_
  rw [HY0.out]
  rintro en w9 ⟨rfl, rfl⟩
  clear cw
  go_wp2_with fail
  have HY := Lib.hid HX.out.drew
  clear HX
  refine wp_region_held_drew (S := (fun w' => Kn.Own w' k.Z k.box ∧ Kn.Own w' f5 [.int .i64 2, .int .i64 0, .int .i64 9, .int .i64 4, .int .i64 3])) (by kernel_rfl) ⟨HY.out.zbox, HY.out.box (x := (f5, [.int .i64 2, .int .i64 0, .int .i64 9, .int .i64 4, .int .i64 3])) (HLL.out _ List.mem_cons_self)⟩ (fun hSw0 => ?_)
  generalize w3.drew = wz at *
  refine Kn.takeS 0 ⟨some 108, _, _, _, _, _⟩ ?_
  refine Kn.takeS 1 ⟨some 109, _, _, _, _, _⟩ ?_
  refine Kn.takeS 2 ⟨some 110, _, _, _, _, _⟩ ?_
  refine Kn.takeS 3 ⟨some 111, _, _, _, _, _⟩ (v := (.pointer (some ⟨k.p.D, 0, none⟩))) (hy := fun w hSw => by
   have q0 := hSw.1.cellv 0
   go_simp) ?_
  refine Kn.takeS 4 ⟨some 112, _, _, _, _, _⟩ ?_
  refine Kn.takeS 5 ⟨some 113, _, _, _, _, _⟩ ?_
  refine Kn.takeS 6 ⟨some 114, _, _, _, _, _⟩ ?_
  refine Kn.takeS 7 ⟨some 115, _, _, _, _, _⟩ (v := (.pointer (some ⟨k.gb, 0, none⟩))) (hy := fun w hSw => by
   have q0 := hSw.1.cellv 2
   go_simp) ?_
  refine Kn.takeS 8 ⟨some 116, _, _, _, _, _⟩ (v := (.agg #[.int .i64 2, .int .i64 0, .int .i64 9, .int .i64 4, .int .i64 3])) (hy := fun w hSw => by
   obtain ⟨q0, q1, q2, q3, q4⟩ := own5 hSw.2
   go_simp) ?_
  refine Kn.takeR 9 ⟨some 117, _, _, _, _, _⟩ fun K hK => ?_
  go_simp
  refine (zi_chnew HY.out (⟨2, 0, 9, 4, 3⟩ : Ps)).mono ?_
  rintro en wa ⟨C, rfl, hd⟩
  have HYc := Lib.hid hd
  clear hd
  clear HY
  refine hK.out _ _ ⟨HYc.out.zbox, HYc.out.box (x := (f5, [.int .i64 2, .int .i64 0, .int .i64 9, .int .i64 4, .int .i64 3])) (List.mem_cons_of_mem _ (HLL.out _ List.mem_cons_self))⟩ (fun hSn => ?_)
  clear hK K hSw0
  have hSw0 := hSn
  clear hSn
  refine Kn.takeS 10 ⟨some 15, _, _, _, _, _⟩ ?_
  refine wpAnyH_done (by kernel_rfl) ?_ _
  clear hSw0
  go_wp2_with fail
  refine (zi_walk15 (⟨2, 0, 9, 4, 3⟩ : Ps) _ HYc.out (by rw [HTD.out]; show ll2.length ≤ 299; have := HFW.out; omega)).mono ?_
  rw [HTD.out]
  rintro en w5 ⟨xs, A7, c7, fs, rfl, hxs, hfs, hd⟩
  have hlen : xs.length = ll2.length := by
   have h1 : (xs.map Fnd.pr).length = ll2.length := by rw [hxs]
   rwa [List.length_map] at h1
  obtain ⟨mx, hmx⟩ : ∃ q, xs.length = q := ⟨_, rfl⟩
  rw [hmx] at hd ⊢
  have HY : Hid (ZI w w5 k y ((C, CB k.p.D k.gb (⟨2, 0, 9, 4, 3⟩ : Ps) y.p 0) :: L') (⟨56, 5, .slice A7 mx c7, mx, rrV xs⟩ :: [⟨63, 4, .slice A8 n c8a, n, itsV its⟩, ⟨47, 1, .slice A9 mb c9a, mb, sl.map slv⟩]) (fs ++ ((fun W => Bls W sl bls) :: [(fun W => Ins W A n c l), (fun W => Ins W none 0 0 [])]))) := Lib.hid hd
  have HY2 := Lib.hid (((HY.out.addFc (Only.refl _ _) (f := fun W => Bls W [] []) (fun W _ => Kn.Bls.nil W)).gnew 47 1).gnew 63 4)
  have HXS := Lib.hid hxs
  have HFS := Lib.hid hfs
  have HMX := Lib.hid hmx
  have HLE := Lib.hid hlen
  have hmx2 : mx ≤ 200 := by have := HFW.out; omega
  clear hd hxs hfs HYc hmx hlen HY
  go_wp2_with fail
  go_loopg [16, 17, 19] mx (fun rr t16 t17 t19 wr => ∃ (i a16 a17 : Nat) (il : List It) (bf : List (List UInt8)) (sf : List (Option Addr × Nat × Nat)) (A16 A17 : Option Addr) (c16 c17 : Nat), i + rr = mx ∧ t16 = .slice A16 a16 c16 ∧ t17 = .slice A17 a17 c17 ∧ t19 = .int .i64 (i : Int) ∧ il = (ll2.take i).flatMap (fun x => x.2.its.filter no7) ∧ il.length = a16 ∧ bf = (ll2.take i).flatMap (fun x => x.2.bl) ∧ sf.length = a17 ∧ ZI w wr k y ((C, CB k.p.D k.gb (⟨2, 0, 9, 4, 3⟩ : Ps) y.p 0) :: L') (⟨63, 4, .slice A16 a16 c16, a16, itsV il⟩ :: ⟨47, 1, .slice A17 a17 c17, a17, sf.map slv⟩ :: ⟨56, 5, .slice A7 mx c7, mx, rrV xs⟩ :: [⟨63, 4, .slice A8 n c8a, n, itsV its⟩, ⟨47, 1, .slice A9 mb c9a, mb, sl.map slv⟩]) ((fun W => Bls W sf bf) :: (fs ++ ((fun W => Bls W sl bls) :: [(fun W => Ins W A n c l), (fun W => Ins W none 0 0 [])]))))
  case atStart => exact ⟨0, 0, 0, [], [], [], none, none, 0, 0, by omega, rfl, rfl, rfl, rfl, rfl, rfl, rfl, HY2.out⟩
  clear HY2
  obtain ⟨i, a16, a17, il, bf, sf, A16, A17, c16, c17, hi, rfl, rfl, rfl, hil, hia, hbf, hsf, hd⟩ := hrel
  have HR := Lib.hid hd
  have HIE := Lib.hid hil
  have HIA := Lib.hid hia
  have HBF := Lib.hid hbf
  have HSF := Lib.hid hsf
  clear hd hil hia hbf hsf
  by_cases hlt2 : i < mx
  ·have hlt3 : (i : Int) < (mx : Int) := by omega
   have hix : i < xs.length := by rw [HMX.out]; exact hlt2
   obtain ⟨x, hx⟩ : ∃ x, xs[i] = x := ⟨_, rfl⟩
   have hxm : x ∈ xs := by rw [← hx]; exact List.getElem_mem hix
   have hli : ll2[i]? = some x.pr := by rw [← HXS.out, List.getElem?_map, List.getElem?_eq_getElem hix, hx]; rfl
   have htk : ll2.take (i + 1) = ll2.take i ++ [x.pr] := by
    rw [List.take_add_one, hli]
    rfl
   obtain ⟨hnn, hmm⟩ := HL3.out.nm i _ hli
   obtain ⟨it0, js, hits, -, -⟩ := HL3.out.head (List.mem_of_getElem? hli)
   have hI1 : (ll2.take (i + 1)).flatMap (fun x => x.2.its.filter no7) = il ++ x.r.its.filter no7 := by
    rw [htk, List.flatMap_append, ← HIE.out]
    show _ ++ (x.r.its.filter no7 ++ []) = _
    rw [List.append_nil]
   have hB1 : (ll2.take (i + 1)).flatMap (fun x => x.2.bl) = bf ++ x.r.bl := by
    rw [htk, List.flatMap_append, ← HBF.out]
    show _ ++ (x.r.bl ++ []) = _
    rw [List.append_nil]
   have hIle : (il ++ x.r.its.filter no7).length ≤ n := by
    rw [← hI1, ← HIL.out, ← HIT.out]
    exact flat_len _ _ _
   have hBle : (bf ++ x.r.bl).length ≤ n := by
    have h1 := (HR.out.fact (f := (fun W => Bls W sl bls)) (by simp)).1
    have h2 := HSL.out
    have h3 : (bf ++ x.r.bl).length ≤ bls.length := by
     rw [← hB1, ← HBL.out]
     exact flat_len _ _ _
    omega
   obtain ⟨xp, r, ⟨s1, s2, s3⟩, ⟨t1, t2, t3⟩⟩ := x
   have hm3 : r.m = 3 := hmm
   have hn9 : r.n = 9 + (i : Int) := hnn
   have hits2 : r.its = it0 :: js := hits
   have HI1 := Lib.hid hI1
   have HB1 := Lib.hid hB1
   have HIL3 : Hid ((il ++ r.its.filter no7).length ≤ n) := Lib.hid hIle
   have HBL3 : Hid ((bf ++ r.bl).length ≤ n) := Lib.hid hBle
   have HMEM : Hid ((fun W => RcAt W r (s1, s2, s3) (t1, t2, t3)) ∈ ((fun W => Bls W sf bf) :: (fs ++ ((fun W => Bls W sl bls) :: [(fun W => Ins W A n c l), (fun W => Ins W none 0 0 [])])))) := Lib.hid (List.mem_cons_of_mem _ (List.mem_append_left _ (HFS.out _ hxm)))
   have hI : Its wr s1 s2 s3 r.its := (HR.out.fact HMEM.out).1
   have hl2 : r.its.length = s2 := hI.len
   have hs2 : 1 ≤ s2 := by rw [← hl2, hits2]; simp
   obtain ⟨gs, os, hs1, -⟩ := hI.at_ hs2
   have HCI : Hid (∀ V : World, Its V s1 s2 s3 r.its → ∀ q (h : q < r.its.length), V.cell? ⟨gs, os + q * 4, none⟩ = some (.int .i64 r.its[q].k) ∧ V.cell? ⟨gs, os + q * 4 + 1, none⟩ = some (.int .i64 r.its[q].b) ∧ V.cell? ⟨gs, os + q * 4 + 2, none⟩ = some (.int .i64 r.its[q].c) ∧ V.cell? ⟨gs, os + q * 4 + 3, none⟩ = some (.int .i64 r.its[q].v)) := Lib.hid (fun V hV q hq => by
    obtain ⟨g2, o2, hA2, hc2⟩ := hV.at_ hs2
    rw [hs1] at hA2
    injection hA2 with hA2
    injection hA2 with e1 e2
    subst e1 e2
    exact hc2 q hq)
   obtain ⟨_, _, hA7⟩ := cells_owns (HR.out.gi 2 rfl)
   obtain ⟨g7, hg7, -⟩ := hA7 (by show 0 < mx; omega)
   have HCR : Hid (∀ V : World, V.ownsRow w.heap.size 56 5 (.slice A7 mx c7) mx (rrV xs) → V.cell? ⟨g7, i * 5, none⟩ = some (.int .i64 r.m) ∧ V.cell? ⟨g7, i * 5 + 1, none⟩ = some (.int .i64 r.n) ∧ V.cell? ⟨g7, i * 5 + 3, none⟩ = some (.slice s1 s2 s3) ∧ V.cell? ⟨g7, i * 5 + 4, none⟩ = some (.slice t1 t2 t3)) := Lib.hid (fun V hV => by
    obtain ⟨_, _, h8⟩ := cells_owns hV
    obtain ⟨g8, hg8, hc8⟩ := h8 (by omega)
    rw [hg7] at hg8
    injection hg8 with hg8
    injection hg8 with e1 e2
    subst e1
    have hk : ∀ q, q < 5 → (rrV xs)[i * 5 + q]? = (rr1 xs[i])[q]? := fun q hq => flatMap_get rr1 5 (fun _ => rfl) xs i q hix hq
    rw [hx] at hk
    refine ⟨hc8 _ _ ?_, hc8 _ _ ?_, hc8 _ _ ?_, hc8 _ _ ?_⟩
    ·have := hk 0 (by decide)
     rw [Nat.add_zero] at this
     rw [this]
     rfl
    ·rw [hk 1 (by decide)]
     rfl
    ·rw [hk 3 (by decide)]
     rfl
    ·rw [hk 4 (by decide)]
     rfl)
   subst hg7
   have HM3 := Lib.hid hm3
   have HN9 := Lib.hid hn9
   have HL2 := Lib.hid hl2
   have HS1 := Lib.hid hs1
   have hs60 : s2 ≤ 9223372036854775807 := by
    have h1 := hI.le
    have h2 := hI.cm
    unfold maxLen at h2
    omega
   clear hx hxm hli htk hnn hmm hits hI1 hB1 hIle hBle hm3 hn9 hits2 hI hl2 hA7 hix
   obtain ⟨go1, rfl⟩ : ∃ g, gk = g + 1 := ⟨gk - 1, by omega⟩
   go_wp2_with fail
   go_loopg [16, 20] s2 (fun rr t16 t20 wq => ∃ (q a2 : Nat) (il2 : List It) (A2 : Option Addr) (c2 : Nat), q + rr = s2 ∧ t16 = .slice A2 a2 c2 ∧ t20 = .int .i64 (q : Int) ∧ il2 = il ++ (r.its.take q).filter no7 ∧ il2.length = a2 ∧ ZI w wq k y ((C, CB k.p.D k.gb (⟨2, 0, 9, 4, 3⟩ : Ps) y.p 0) :: L') (⟨63, 4, .slice A2 a2 c2, a2, itsV il2⟩ :: ⟨47, 1, .slice A17 a17 c17, a17, sf.map slv⟩ :: ⟨56, 5, .slice (some ⟨g7, 0, none⟩) mx c7, mx, rrV xs⟩ :: [⟨63, 4, .slice A8 n c8a, n, itsV its⟩, ⟨47, 1, .slice A9 mb c9a, mb, sl.map slv⟩]) ((fun W => Bls W sf bf) :: (fs ++ ((fun W => Bls W sl bls) :: [(fun W => Ins W A n c l), (fun W => Ins W none 0 0 [])]))))
   case atStart => exact ⟨0, a16, il, A16, c16, by omega, rfl, rfl, by simp, HIA.out, HR.out⟩
   clear HR
   obtain ⟨q, a2, il2, A2, c2, hq, rfl, rfl, hil2, hia2, hd⟩ := hrel
   have HQ := Lib.hid hd
   have HIE2 := Lib.hid hil2
   have HIA2 := Lib.hid hia2
   clear hd hil2 hia2
   by_cases hq8 : q < s2
   ·have hq9 : (q : Int) < (s2 : Int) := by omega
    have hql : q < r.its.length := by rw [HL2.out]; exact hq8
    obtain ⟨k0, k1, k2, k3⟩ := HCI.out _ (HQ.out.fact HMEM.out).1 q hql
    obtain ⟨-, -, c53, -⟩ := HCR.out _ (HQ.out.gi 2 rfl)
    rw [HS1.out] at c53
    have htq : r.its.take (q + 1) = r.its.take q ++ [r.its[q]] := List.take_succ_eq_append_getElem hql
    obtain ⟨⟨ik, ib, ic, iv⟩, hit⟩ : ∃ it, r.its[q] = it := ⟨_, rfl⟩
    rw [hit] at k0 k1 k2 k3 htq
    have HTQ := Lib.hid htq
    have hal : a2 ≤ n := by
     have h1 := HIL3.out
     have h2 : ((r.its.take q).filter no7).length ≤ (r.its.filter no7).length := by
      conv => rhs; rw [← List.take_append_drop q r.its]
      rw [List.filter_append, List.length_append]
      omega
     rw [← HIA2.out, HIE2.out, List.length_append]
     rw [List.length_append] at h1
     omega
    clear hit htq hql
    by_cases h7 : ik = 7
    ·subst h7
     have HEQ : Hid (il2 = il ++ (r.its.take (q + 1)).filter no7) := Lib.hid (by
      rw [HTQ.out, List.filter_append, HIE2.out]
      show _ = il ++ (_ ++ [])
      rw [List.append_nil])
     go_wp2
     go_roundg (gk - 1)
     case measure => omega
     case rel => exact ⟨q + 1, a2, il2, A2, c2, by omega, rfl, by go_num, HEQ.out, HIA2.out, HQ.out⟩
    ·have hne : (ik != 7) = true := bne_iff_ne.2 h7
     have HEQ : Hid (il2 ++ [(⟨ik, ib, ic, iv⟩ : It)] = il ++ (r.its.take (q + 1)).filter no7) := Lib.hid (by
      have h1 : no7 (⟨ik, ib, ic, iv⟩ : It) = true := decide_eq_true h7
      rw [HTQ.out, List.filter_append, HIE2.out, List.filter_cons_of_pos h1, List.append_assoc]
      rfl)
     have HLN2 : Hid ((il2 ++ [(⟨ik, ib, ic, iv⟩ : It)]).length = a2 + 1) := Lib.hid (by rw [List.length_append, HIA2.out]; rfl)
     have HAL := Lib.hid (HQ.out.alloc (.cells #[.int .i64 ik, .int .i64 ib, .int .i64 ic, .int .i64 iv] 63))
     have HBS := Lib.hid HAL.out.only.size
     have HNW := Lib.hid (news_new wr #[.int .i64 ik, .int .i64 ib, .int .i64 ic, .int .i64 iv] 63 (by simp [maxLen]))
     have HON := Lib.hid (it_one15 ik ib ic iv)
     have HIA := Lib.hid (its_add15 il2 ik ib ic iv)
     clear HQ HTQ
     obtain ⟨i0, hi0, hz0, hz1, hz2⟩ := info_parts Tryz.infoItem
     go_wp2_with (first
      | (at_builtin; (refine wpList_append_own_at _ rfl (.tmp 148) (.tmp 157) 53 rfl w.heap.size 63 i0 _ 4 32 Tryz.underlying53 hi0 hz0 hz1 hz2 rfl (by decide) (.slice A2 a2 c2) a2 (itsV il2) rfl (HAL.out.gi 0 rfl) ⟨wr.heap.size, 0, none⟩ 1 1 [.int .i64 ik, .int .i64 ib, .int .i64 ic, .int .i64 iv] rfl rfl HNW.out HON.out (by unfold maxLen; omega) (by omega) HBS.out ?_; intro v5 w5 hown5 hgrow5 _ hat5; rw [← HIA.out] at hown5; have hdd := HAL.out.gapp 0 rfl hown5 hgrow5 hat5; obtain ⟨A18, c18, rfl⟩ := hdd.gform 0 rfl; simp only [List.set_cons_zero, List.set_cons_succ] at hdd; have HE := Lib.hid hdd; clear hdd hown5 hgrow5 hat5 HAL HNW HON HBS))
      | fail)
     clear hi0 hz0 hz1 hz2 i0 HIA
     go_wp2
     go_roundg (gk - 1)
     case measure => omega
     case rel => exact ⟨q + 1, a2 + 1, il2 ++ [(⟨ik, ib, ic, iv⟩ : It)], A18, c18, by omega, rfl, by go_num, HEQ.out, HLN2.out, HE.out⟩
   ·obtain rfl : s2 = q := by omega
    have HEQ : Hid (il2 = (ll2.take (i + 1)).flatMap (fun x => x.2.its.filter no7)) := Lib.hid (by rw [HI1.out, HIE2.out, List.take_of_length_le (by rw [HL2.out]; exact Nat.le_refl _)])
    obtain ⟨slr, hd⟩ := HQ.out.fixB (r := r) (s := (s1, s2, s3)) (t := (t1, t2, t3)) HMEM.out
    have HP := Lib.hid hd
    have hsl2 : slr.length = t2 := by
     have := (HP.out.fact (f := fun W => Row1 W t1 t2 t3 (slr.map slv) ∧ Bls W slr r.bl) List.mem_cons_self).1.len
     rwa [List.length_map] at this
    have hslb : slr.length = r.bl.length := (HP.out.fact (f := fun W => Row1 W t1 t2 t3 (slr.map slv) ∧ Bls W slr r.bl) List.mem_cons_self).2.1
    have hsfb : sf.length = bf.length := (HP.out.fact (f := fun W => Bls W sf bf) (List.mem_cons_of_mem _ List.mem_cons_self)).1
    have hb60 : a17 + t2 ≤ n := by
     have h1 := HBL3.out
     rw [List.length_append] at h1
     have h2 := HSF.out
     omega
    have HSL3 : Hid ((sf ++ slr).length = a17 + t2) := Lib.hid (by rw [List.length_append, HSF.out, hsl2])
    obtain ⟨-, -, c53, c54⟩ := HCR.out _ (HP.out.gi 2 rfl)
    rw [HS1.out] at c53
    clear hd HQ hsl2 hslb hsfb
    obtain ⟨i1, hi1, hy0, hy1, hy2⟩ := info_parts Tryz.infoBys
    go_upto_region 38 with (first
     | (at_builtin; (refine wpList_append_row1 rfl (.tmp 159) (.tmp 164) 54 rfl w.heap.size 47 i1 _ 24 Tryz.underlying54 hi1 hy0 hy1 hy2 rfl (.slice A17 a17 c17) a17 (sf.map slv) rfl (HP.out.gi 1 rfl) t1 t2 t3 (slr.map slv) rfl (HP.out.fact (f := fun W => Row1 W t1 t2 t3 (slr.map slv) ∧ Bls W slr r.bl) List.mem_cons_self).1 (slv_one _) (by unfold maxLen; omega) (by omega) HP.out.only.size ?_; intro v5 w6 hown5 hgrow5 hat5; rw [← List.map_append] at hown5; have hdd := HP.out.gapp 1 rfl hown5 hgrow5 hat5; obtain ⟨A19, c19, rfl⟩ := hdd.gform 1 rfl; simp only [List.set_cons_zero, List.set_cons_succ] at hdd; have HU := Lib.hid hdd; clear hdd hown5 hgrow5 hat5 HP))
     | fail)
    clear hi1 hy0 hy1 hy2 i1
    have HV := Lib.hid ((HU.out.fuse (f1 := fun W => Bls W sf bf) (f2 := fun W => Row1 W t1 t2 t3 (slr.map slv) ∧ Bls W slr r.bl) (f := fun W => Bls W (sf ++ slr) (bf ++ r.bl)) (List.mem_cons_of_mem _ List.mem_cons_self) List.mem_cons_self (fun W h1 h2 => h1.app h2.2)).subF (F' := (fun W => Bls W (sf ++ slr) (bf ++ r.bl)) :: (fs ++ ((fun W => Bls W sl bls) :: [(fun W => Ins W A n c l), (fun W => Ins W none 0 0 [])]))) (fun f hf => by
     rcases List.mem_cons.1 hf with hf | hf
     ·rw [hf]
      exact List.mem_cons_self
     ·exact List.mem_cons_of_mem _ (List.mem_cons_of_mem _ (List.mem_cons_of_mem _ hf))))
    rw [← HB1.out] at HV
    obtain ⟨cm, cn, -, -⟩ := HCR.out _ (HV.out.gi 2 rfl)
    rw [HM3.out] at cm
    rw [HN9.out] at cn
    clear HU
    go_wp2
    go_roundg go1
    case measure => omega
    case rel => exact ⟨i + 1, a2, a17 + t2, il2, _, sf ++ slr, A2, A19, c2, c19, by omega, rfl, rfl, by go_num, HEQ.out, HIA2.out, rfl, HSL3.out, HV.out⟩
  ·obtain rfl : mx = i := by omega
   have hlm : ll2.length = mx := by rw [← HLE.out, HMX.out]
   have hil : il = its := by rw [HIE.out, List.take_of_length_le (by rw [hlm]; exact Nat.le_refl _), HIT.out]
   have hbf : bf = bls := by rw [HBF.out, List.take_of_length_le (by rw [hlm]; exact Nat.le_refl _), HBL.out]
   have hd := HR.out
   rw [hil, hbf] at hd
   have HQ := Lib.hid hd
   have HIA3 : Hid (its.length = a16) := Lib.hid (by rw [← hil]; exact HIA.out)
   clear hd HR hil hbf HIE HBF
   go_wp2_with fail
   refine (zi_chend HQ.out).mono ?_
   rintro en w6 ⟨rfl, hO⟩
   have HE := Lib.hid ((HQ.out.keep0 hO).newB #[.int .i64 y.p.s, .int .i64 y.p.o, .int .i64 y.p.l, .int .i64 y.p.p, .int .i64 y.p.m] 32 rfl)
   clear hO HQ
   go_upto_region 41 with (fail)
   generalize hvz : w6.alloc (.cells #[.int .i64 y.p.s, .int .i64 y.p.o, .int .i64 y.p.l, .int .i64 y.p.p, .int .i64 y.p.m] 32) = w7 at *
   generalize w6.heap.size = f21 at *
   clear hvz
   by_cases h0 : mx = 0
   ·have hll : ll2 = [] := List.eq_nil_of_length_eq_zero (by omega)
    have hyp : y.p = (⟨2, 0, 9, 4, 3⟩ : Ps) := HL3.out.st2 hll
    have hn0 : n = 0 := by
     have h1 := HIL.out
     have h2 := HIT.out
     rw [hll] at h2
     rw [← h1, ← h2]
     rfl
    have hd := HE.out
    rw [hyp] at hd
    have b1 := hd.box (x := (f21, [.int .i64 2, .int .i64 0, .int .i64 9, .int .i64 4, .int .i64 3])) List.mem_cons_self
    have b2 := hd.box (x := (f5, [.int .i64 2, .int .i64 0, .int .i64 9, .int .i64 4, .int .i64 3])) (List.mem_cons_of_mem _ (List.mem_cons_of_mem _ (HLL.out _ List.mem_cons_self)))
    obtain ⟨q0, q1, q2, q3, q4⟩ := own5 b1
    obtain ⟨p0, p1, p2, p3, p4⟩ := own5 b2
    have HOO := Lib.hid hd.only
    clear hd b1 b2 HE hll hyp
    subst hn0 h0
    go_wp2_with fail
    refine (awake15_any _).mono ?_
    rintro en w8 ⟨rfl, hO⟩
    have HO := Lib.hid (HOO.out.trans' hO)
    clear hO HOO
    go_wp2
    go_ret
    exact ⟨rfl, HO.out⟩
   ·have h0b : ((mx : Int) == 0) = false := beq_eq_false_iff_ne.2 (by omega)
    go_wp2_with fail
    have HY := Lib.hid HE.out.drew
    clear HE
    refine wp_region_held_drew (S := (fun w' => Kn.Own w' k.Z k.box ∧ Kn.Own w' f21 [.int .i64 y.p.s, .int .i64 y.p.o, .int .i64 y.p.l, .int .i64 y.p.p, .int .i64 y.p.m])) (by kernel_rfl) ⟨HY.out.zbox, HY.out.box (x := (f21, [.int .i64 y.p.s, .int .i64 y.p.o, .int .i64 y.p.l, .int .i64 y.p.p, .int .i64 y.p.m])) List.mem_cons_self⟩ (fun hSw0 => ?_)
    generalize w7.drew = wz at *
    refine Kn.takeS 0 ⟨some 198, _, _, _, _, _⟩ ?_
    refine Kn.takeS 1 ⟨some 199, _, _, _, _, _⟩ ?_
    refine Kn.takeR 2 ⟨some 200, _, _, _, _, _⟩ fun K hK => ?_
    go_simp
    refine (alike_items_any A16 a16 c16 its A8 n c8a its _ (HY.out.its 0 rfl HIA3.out) (HY.out.its 3 rfl HIL.out)).mono ?_
    rintro en wi ⟨rfl, nk, hwi⟩
    rw [decide_eq_true (rfl : its = its)]
    have HYi : Hid (ZI w wi k y _ _ _) := Lib.hid (by rw [hwi]; exact HY.out.keep0 ((Only.refl _ _).drewN nk))
    clear hwi
    clear HY
    refine hK.out _ _ ⟨HYi.out.zbox, HYi.out.box (x := (f21, [.int .i64 y.p.s, .int .i64 y.p.o, .int .i64 y.p.l, .int .i64 y.p.p, .int .i64 y.p.m])) List.mem_cons_self⟩ (fun hSn => ?_)
    clear hK K hSw0
    have hSw0 := hSn
    clear hSn
    refine Kn.takeS 3 ⟨some 201, _, _, _, _, _⟩ ?_
    refine Kn.takeS 4 ⟨some 202, _, _, _, _, _⟩ ?_
    refine Kn.takeS 5 ⟨some 203, _, _, _, _, _⟩ ?_
    refine Kn.takeR 6 ⟨some 204, _, _, _, _, _⟩ fun K hK => ?_
    go_simp
    refine (alike_blocks_any A17 a17 c17 bls A9 mb c9a bls _ ⟨sf, HYi.out.row 1 rfl, HYi.out.fact (f := fun W => Bls W sf bls) List.mem_cons_self⟩ ⟨sl, HYi.out.row 4 rfl, HYi.out.fact (f := fun W => Bls W sl bls) (by simp)⟩).mono ?_
    rintro en wj ⟨rfl, nk, hwj⟩
    rw [decide_eq_true (rfl : bls = bls)]
    have HYib : Hid (ZI w wj k y _ _ _) := Lib.hid (by rw [hwj]; exact HYi.out.keep0 ((Only.refl _ _).drewN nk))
    clear hwj
    clear HYi
    refine hK.out _ _ ⟨HYib.out.zbox, HYib.out.box (x := (f21, [.int .i64 y.p.s, .int .i64 y.p.o, .int .i64 y.p.l, .int .i64 y.p.p, .int .i64 y.p.m])) List.mem_cons_self⟩ (fun hSn => ?_)
    clear hK K hSw0
    have hSw0 := hSn
    clear hSn
    refine Kn.takeS 7 ⟨some 205, _, _, _, _, _⟩ ?_
    refine Kn.takeS 8 ⟨some 206, _, _, _, _, _⟩ ?_
    refine Kn.takeS 9 ⟨some 207, _, _, _, _, _⟩ (v := (.agg #[.int .i64 y.p.s, .int .i64 y.p.o, .int .i64 y.p.l, .int .i64 y.p.p, .int .i64 y.p.m])) (hy := fun w hSw => by
     obtain ⟨q0, q1, q2, q3, q4⟩ := own5 hSw.2
     go_simp) ?_
    refine Kn.takeS 10 ⟨some 208, _, _, _, _, _⟩ ?_
    refine Kn.takeS 11 ⟨some 209, _, _, _, _, _⟩ ?_
    refine Kn.takeS 12 ⟨some 210, _, _, _, _, _⟩ ?_
    refine Kn.takeS 13 ⟨some 211, _, _, _, _, _⟩ (v := (.pointer (some ⟨k.W, 0, none⟩))) (hy := fun w hSw => by
     have q0 := hSw.1.cellv 8
     go_simp) ?_
    refine Kn.takeR 14 ⟨some 212, _, _, _, _, _⟩ fun K hK => ?_
    go_simp
    refine (zi_pos HYib.out).mono ?_
    rintro en wk ⟨rfl, hO⟩
    have HYibp := Lib.hid (HYib.out.keep0 hO)
    clear hO
    clear HYib
    refine hK.out _ _ ⟨HYibp.out.zbox, HYibp.out.box (x := (f21, [.int .i64 y.p.s, .int .i64 y.p.o, .int .i64 y.p.l, .int .i64 y.p.p, .int .i64 y.p.m])) List.mem_cons_self⟩ (fun hSn => ?_)
    clear hK K hSw0
    have hSw0 := hSn
    clear hSn
    refine Kn.takeS 15 ⟨some 213, _, _, _, _, _⟩ ?_
    refine Kn.takeS 16 ⟨some 214, _, _, _, _, _⟩ ?_
    refine Kn.takeS 17 ⟨some 215, _, _, _, _, _⟩ ?_
    refine Kn.takeR 18 ⟨some 216, _, _, _, _, _⟩ fun K hK => ?_
    go_simp
    refine (awake15_any _).mono ?_
    rintro en wl ⟨rfl, hO⟩
    have HYibpw := Lib.hid (HYibp.out.keep0 hO)
    clear hO
    clear HYibp
    refine hK.out _ _ ⟨HYibpw.out.zbox, HYibpw.out.box (x := (f21, [.int .i64 y.p.s, .int .i64 y.p.o, .int .i64 y.p.l, .int .i64 y.p.p, .int .i64 y.p.m])) List.mem_cons_self⟩ (fun hSn => ?_)
    clear hK K hSw0
    have hSw0 := hSn
    clear hSn
    refine Kn.takeS 19 ⟨some 217, _, _, _, _, _⟩ ?_
    refine Kn.takeS 20 ⟨some 4, _, _, _, _, _⟩ ?_
    refine wpAnyH_done (by kernel_rfl) ?_ _
    clear hSw0
    go_wp2
    go_ret
    exact ⟨rfl, HYibpw.out.only⟩
end Go.Proofs.YtgcfdjcpcclcjaaGreat
