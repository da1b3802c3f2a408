/- RingR, Awake13, Frame, FrameK, StpP, BrkP, RingF, LaidP, TurnW, BrkQ, MntP, ScpP, KitF, ChnA, ChnB, ChnC, ChnI, ChnD: joined by pack.py, without what the claim does not use. -/
import Derived.Test.YtgcfdjcpcclcjaaGreatChainCutF
set_option linter.unusedVariables false
set_option linter.unusedSimpArgs false
namespace Go.Kn
open Go Go.RowKit
def c38 : Cf := ⟨3, 8, 24⟩
theorem c38ok : c38.Ok := ⟨by decide, by decide, by decide⟩
theorem ring_told {s0 l0 p0 m0 : Int} (hs : 0 ≤ s0 ∧ s0 ≤ 7) (hl : 1 ≤ l0 ∧ l0 ≤ 1000) (hp : 0 ≤ p0 ∧ p0 ≤ 4294967295) (hm : 1 ≤ m0 ∧ m0 ≤ 1000) {k e : Nat} (hk : 1 ≤ k ∧ k ≤ 40) (he : 6 ≤ e ∧ e ≤ 20) :
  ∃ (l : List (Ps × Rc)) (qe : Ps) (de : Dk) (Y : Nat), laidRun c38 (ringL e 8 k s0) ⟨s0, 0, l0, p0, m0⟩ (Dk.new c38.sectors.toNat) = (qe, de) ∧ RL c38 (sgR s0) 8 de ⟨s0, 1, l0, p0, m0⟩ l Y qe ∧ l.length = k + (k - 1) / e ∧ l.length ≤ 46 ∧ chainR de c38 ⟨s0, 0, l0, p0, m0⟩ = (l, qe, 0) ∧ qe.s = (s0 + (((k - 1) / e : Nat) : Int)) % 8 ∧ qe.l = l0 + (k : Int) + (((k - 1) / e : Nat) : Int) := by
 have hS := sgs_ring c38ok rfl rfl s0
 have hsg : sgR s0 0 = s0 := by unfold sgR; push_cast; omega
 have h0 : RL c38 (sgR s0) 8 ((Dk.new c38.sectors.toNat).puts (c38.at_ s0) (headB ⟨s0, 0, l0, p0, m0⟩)) ⟨s0, 1, l0, p0, m0⟩ [] 1 ⟨s0, 1, l0, p0, m0⟩ := RL.start hS (by decide) (p := ⟨s0, 0, l0, p0, m0⟩) hsg.symm hl hm hp
 have hke : k ≤ e * 8 := by omega
 obtain ⟨l, qe, de, e1, e2, e3⟩ := ring_laid hS e ⟨by omega, he.2⟩ 8 k 0 h0 rfl hk.1 hke
 rw [List.nil_append] at e2
 have hd6 : (k - 1) / e ≤ 6 := by
  have : (k - 1) / e ≤ (k - 1) / 6 := Nat.div_le_div_left he.1 (by decide)
  omega
 have hmul : e * ((k - 1) / e) ≤ k - 1 := Nat.mul_div_le _ _
 have hlt := Nat.lt_mul_div_succ (k - 1) (show 0 < e by omega)
 have hpl := e2.run.pl.2.1
 have hh : Hd de c38 ⟨s0, 0, l0, p0, m0⟩ := by have := e2.hd; rw [hsg] at this; exact this
 refine ⟨l, qe, de, _, ?_, e2, e3, by omega, e2.run.told hS (by decide) (p := ⟨s0, 0, l0, p0, m0⟩) hh (e2.none_ hS) hl.2 rfl, ?_, ?_⟩
 ·have := e1
  rw [show s0 + ((0 : Nat) : Int) = s0 from by simp] at this
  exact this
 ·rw [hpl.s]
  unfold sgR
  congr 2
  rw [Nat.mul_succ] at hlt
  have : (24 * (0 + (k - 1) / e) + 1 + (k - e * ((k - 1) / e))) / 24 = (k - 1) / e := by omega
  rw [this]
 ·rw [e2.ql, e3]
  push_cast
  omega
end Go.Kn
namespace Go.Proofs.YtgcfdjcpcclcjaaGreat
open Go Go.RowKit Go.Kn
theorem c13ok : CfOk 2 8 24 := ⟨by decide, by decide, by decide⟩
end Go.Proofs.YtgcfdjcpcclcjaaGreat
namespace Go.Proofs.YtgcfdjcpcclcjaaGreat
open Go.ChangeShapes Go.WideShapes Go.ChangeAt Go.RowKit Go.Kn
theorem own : ownKnob Tryz.prog.godebug = none := by kernel_rfl
/-- a slice of integers that came in: nil, or a row of cap cells. -/
def IsRow (k : IntKind) (w : World) (a : Option Addr) (len cap : Nat) (zs : List Int) : Prop :=
 (a = none ∧ len = 0 ∧ cap = 0 ∧ zs = []) ∨
 ∃ x, a = some x ∧ len ≤ cap ∧ cap ≤ maxLen ∧ zs.length = cap ∧ (∀ i, i < zs.length → w.cell? (x.add i) = some (.int k (zs.getD i 0))) ∧ ∀ n ∈ zs, (Lit.int k n).wf = true
theorem IsRow.wf {k : IntKind} {w : World} {a : Option Addr} {len cap : Nat} {zs : List Int} (h : IsRow k w a len cap zs) : ∀ z ∈ zs.take len, (Lit.int k z).wf = true := by
 intro z hz
 rcases h with ⟨rfl, rfl, rfl, rfl⟩ | ⟨x, rfl, hl, hm, hz', hcell, hwz⟩
 ·simp at hz
 ·exact hwz z (List.mem_of_mem_take hz)
section
open Go.Deep
variable {H : Type} {enc : TypeId × Value → H} {P : Program} {w : World} {base : Nat} {spare : Nat → Bool} {held : Bool}
end
end Go.Proofs.YtgcfdjcpcclcjaaGreat
namespace Go.Kn
open Go Go.RowKit
/-- a slice of slices of numbers -/
def Inss (w : World) (A : Option Addr) (n c : Nat) (l : List (List Int)) : Prop := ∃ sl : List (Option Addr × Nat × Nat), Row1 w A n c (sl.map slv) ∧ sl.length = l.length ∧ ∀ i (h1 : i < sl.length) (h2 : i < l.length), Ins w sl[i].1 sl[i].2.1 sl[i].2.2 l[i]
theorem Inss.nil (w : World) : Inss w none 0 0 [] := ⟨[], Row1.nil w, rfl, fun i h1 => by simp at h1⟩
theorem Inss.len {w : World} {A : Option Addr} {n c : Nat} {l : List (List Int)} (h : Inss w A n c l) : l.length = n := by
 obtain ⟨sl, h1, h2, _⟩ := h
 have := h1.len
 simp at this
 omega
theorem Krs.nil (w : World) : Krs w none 0 0 [] [] := ⟨rfl, rfl, Nat.le_refl _, Nat.zero_le _, fun h => absurd h (by omega), fun i h => by simp at h⟩
end Go.Kn
namespace Go.Kn
open Go Go.RowKit
def InRows (sl : List (Option Addr × Nat × Nat)) (l : List (List Int)) (W : World) : Prop := ∀ (i : Nat) (s : Option Addr × Nat × Nat) (z : List Int), sl[i]? = some s → l[i]? = some z → Ins W s.1 s.2.1 s.2.2 z
/-- a slice of slices, as two facts -/
theorem Inss.old {w : World} {A : Option Addr} {n c : Nat} {l : List (List Int)} (h : Inss w A n c l) : ∃ sl, sl.length = l.length ∧ Wc w w [] [] [InRows sl l, fun W => Row1 W A n c (sl.map slv)] := by
 obtain ⟨sl, hr, hl, hi⟩ := h
 have h1 := (Wc.start w).old (f := fun W => Row1 W A n c (sl.map slv)) (Row1.fc hr (by simp))
 refine ⟨sl, hl, h1.old (f := InRows sl l) (fun W hW i s z hs hz => ?_)⟩
 obtain ⟨hi1, rfl⟩ := List.getElem?_eq_some_iff.1 hs
 obtain ⟨hi2, rfl⟩ := List.getElem?_eq_some_iff.1 hz
 exact Row1.fc (hi i hi1 hi2) (M := fun _ => False) (by simp) W hW
theorem Kb.hd {w w' : World} {D : Nat} {x : Option (List Deferred)} (hk : Kb w.heap.size w w') (h : w.heap[D]? = some (.deferred x)) : w'.heap[D]? = some (.deferred x) := hk.keep D _ (lt_of_obj h) h rfl
theorem Laid.cut {d : Dk} {c : Cf} {q' : Ps} {l2 : List (Ps × Rc)} : ∀ {l1 : List (Ps × Rc)} {q : Ps}, Laid d c q (l1 ++ l2) q' → ∃ qm, Laid d c q l1 qm ∧ Laid d c qm l2 q'
 | [], q, h => ⟨q, .nil _, h⟩
 | x :: l1, q, h => by
  cases h with
  | cons h1 h2 h3 =>
   obtain ⟨qm, g1, g2⟩ := Laid.cut h3
   exact ⟨qm, .cons h1 h2 g1, g2⟩
theorem Laid.last {d : Dk} {c : Cf} {q' x : Ps} {r : Rc} : ∀ {l : List (Ps × Rc)} {q : Ps}, Laid d c q (l ++ [(x, r)]) q' → follow d c x = (some (r, q'), 0)
 | [], q, h => by
  cases h with
  | cons h1 h2 h3 =>
   cases h3
   exact h1
 | y :: l, q, h => by
  cases h with
  | cons h1 h2 h3 => exact Laid.last h3
/-- stopped behind some records it goes on there -/
theorem Lg.stop {d : Dk} {c : Cf} {q0 q e x : Ps} {r : Rc} {l pre : List (Ps × Rc)} (h : Lg d c q0 l q) (hc : c.Ok) (hp : pre ++ [(x, r)] <+: l) (hf : follow d c x = (some (r, e), 0)) :
  (e.s = q0.s ∧ 1 ≤ e.o ∧ e.o ≤ c.l - 1) ∧ scanG d c 65 e = (l.drop (pre.length + 1), q, 0) := by
 obtain ⟨l2, rfl⟩ := hp
 obtain ⟨qm, g1, g2⟩ := h.laid.cut
 have g3 := g1.last
 rw [hf] at g3
 injection g3 with g3 _
 injection g3 with g3
 injection g3 with _ g3
 subst g3
 have p1 := g1.place
 have p2 := g2.place
 have ho := h.o0
 have ho1 := h.o1
 have hl := hc.2.2
 refine ⟨⟨p1.1, by omega, by omega⟩, ?_⟩
 have hd : (pre ++ [(x, r)] ++ l2).drop (pre.length + 1) = l2 := List.drop_left' (by simp)
 rw [hd]
 exact g2.told (by omega) (by omega) (h.none_ hc)
end Go.Kn
namespace Go.Proofs.YtgcfdjcpcclcjaaGreat
open Go Go.RowKit Go.Kn
theorem Duo.impF {w0 w : World} {p : PD} {r : RD} {d e : Dk} {L : List (Nat × List Value)} {G : List Gs} {F : List (World → Prop)} (h : Duo w0 w p r d e ⟨L, G, F⟩) {F' : List (World → Prop)} (hF : ∀ f ∈ F', ∀ W, (∀ g ∈ F, g W) → f W) : Duo w0 w p r d e ⟨L, G, F'⟩ := by
 obtain ⟨L0, G0, F0, hw, back⟩ := h.fr
 refine back w ⟨L, G, F'⟩ ⟨hw.only, hw.own, hw.lo, hw.nd, hw.g1, hw.g2, hw.g3, fun f hf w' h' => ?_⟩
 rcases List.mem_append.1 hf with hf | hf
 ·exact hF f hf w' (fun g hg => hw.fx g (List.mem_append_left _ hg) w' h')
 ·exact hw.fx f (List.mem_append_right _ hf) w' h'
end Go.Proofs.YtgcfdjcpcclcjaaGreat
namespace Go.Kn
open Go Go.RowKit
theorem u8_bits {u v : UInt8} (h : ∀ j, j < 8 → u.toNat.testBit j = v.toNat.testBit j) : u = v := by
 refine UInt8.toNat_inj.1 (Nat.eq_of_testBit_eq fun j => ?_)
 by_cases hj : j < 8
 ·exact h j hj
 ·have hp : 2 ^ 8 ≤ 2 ^ j := Nat.pow_le_pow_right (by decide) (by omega)
  have h1 := u.toNat_lt
  have h2 := v.toNat_lt
  rw [Nat.testBit_lt_two_pow (by omega), Nat.testBit_lt_two_pow (by omega)]
theorem csum_set_ne {x : List UInt8} {i : Nat} (hi : i < x.length) {v : UInt8} (hv : v ≠ x[i]) : csum (x.set i v) ≠ csum x := by
 intro h
 unfold csum at h
 have h1 := cadd_lt (x := 4294967295) (by decide) x
 have h2 := cadd_lt (x := 4294967295) (by decide) (x.set i v)
 have h3 : cadd 4294967295 (x.set i v) = cadd 4294967295 x := by omega
 rw [cadd_brun, cadd_brun, List.length_set] at h3
 refine burst _ _ (8 * i) 8 (8 * x.length) _ (by decide) (by decide) (by omega) (fun j hj ho => ?_) ?_ h3
 ·unfold bitAt
  rw [List.getD_eq_getElem?_getD, List.getD_eq_getElem?_getD, List.getElem?_set_ne (by omega)]
 ·refine Classical.byContradiction fun hn => hv (u8_bits fun j hj => ?_)
  have e1 : bitAt (x.set i v) (8 * i + j) = v.toNat.testBit j := by
   unfold bitAt
   rw [show (8 * i + j) / 8 = i from by omega, show (8 * i + j) % 8 = j from by omega, List.getD_eq_getElem?_getD, List.getElem?_set_self hi]
   rfl
  have e2 : bitAt x (8 * i + j) = x[i].toNat.testBit j := by
   unfold bitAt
   rw [show (8 * i + j) / 8 = i from by omega, show (8 * i + j) % 8 = j from by omega, List.getD_eq_getElem?_getD, List.getElem?_eq_getElem hi]
   rfl
  by_cases e : v.toNat.testBit j = x[i].toNat.testBit j
  ·exact e
  ·exact absurd ⟨j, hj, by rw [e1, e2]; exact e⟩ hn
theorem not_closed_set {b : List UInt8} (hl : 64 ≤ b.length) (hc : RcClosed b) {i : Nat} (hi : i < b.length) {v : UInt8} (hv : v ≠ b[i]) : ¬ RcClosed (b.set i v) := by
 unfold RcClosed at hc ⊢
 intro he
 by_cases h1 : i < 60
 ·rw [List.drop_set, if_pos h1, List.drop_set, if_pos (by omega), List.take_set, hc] at he
  have hs : (b.take 60).set i v ++ b.drop 64 = (b.take 60 ++ b.drop 64).set i v := by rw [List.set_append_left _ _ (by rw [List.length_take]; omega)]
  rw [hs] at he
  refine csum_set_ne (x := b.take 60 ++ b.drop 64) (i := i) (by rw [List.length_append, List.length_take]; omega) ?_ (le4_inj (csum_lt _) (csum_lt _) he).symm
  rw [List.getElem_append_left (by rw [List.length_take]; omega), List.getElem_take]
  exact hv
 ·have ht : (b.set i v).take 60 = b.take 60 := by rw [List.take_set, List.set_eq_of_length_le (by rw [List.length_take]; omega)]
  by_cases h2 : i < 64
  ·rw [ht, List.drop_set, if_neg h1, List.drop_set, if_pos h2, ← hc, List.take_set] at he
   have h3 := congrArg (fun l => l[i - 60]?) he
   have hlt : i - 60 < ((b.drop 60).take 4).length := by rw [List.length_take, List.length_drop]; omega
   simp only [List.getElem?_set_self hlt, List.getElem?_eq_getElem hlt] at h3
   injection h3 with h3
   apply hv
   rw [h3, List.getElem_take, List.getElem_drop]
   congr 1
   omega
  ·have hd : ((b.set i v).drop 60).take 4 = (b.drop 60).take 4 := by
    rw [List.drop_set, if_neg h1, List.take_set, List.set_eq_of_length_le (by rw [List.length_take, List.length_drop]; omega)]
   rw [hd, ht, List.drop_set, if_neg h2, hc] at he
   have hs : b.take 60 ++ (b.drop 64).set (i - 64) v = (b.take 60 ++ b.drop 64).set (60 + (i - 64)) v := by
    rw [List.set_append_right _ _ (by rw [List.length_take]; omega)]
    congr 2
    rw [List.length_take]
    omega
   rw [hs] at he
   refine csum_set_ne (x := b.take 60 ++ b.drop 64) (i := 60 + (i - 64)) (by rw [List.length_append, List.length_take, List.length_drop]; omega) ?_ (le4_inj (csum_lt _) (csum_lt _) he).symm
   rw [List.getElem_append_right (by rw [List.length_take]; omega), List.getElem_drop]
   have e : 64 + (60 + (i - 64) - (b.take 60).length) = i := by rw [List.length_take]; omega
   simp only [e]
   exact hv
theorem dec_set {b : List UInt8} (hl : 64 ≤ b.length) (hc : RcClosed b) {i : Nat} (hi : i < b.length) {v : UInt8} (hv : v ≠ b[i]) : decRc (b.set i v) = none := by
 cases hd : decRc (b.set i v) with
 | none => rfl
 | some x => exact absurd (closed_of_dec hd) (not_closed_set hl hc hi hv)
/-- of a record whose number of blocks was spoilt nothing is told, whatever stands behind it -/
theorem dec_other_k {r : Rc} (hr : rcMay r = true) {i : Nat} {v : UInt8} {y : List UInt8} (hy : y.take 64 = ((rcBytes r).set i v).take 64) (hk : rcK y ≠ r.bl.length) : decRc y = none := by
 have hb := rcBytes_length hr
 obtain ⟨⟨_, _, _, h3, h6⟩, hi', hbl, hf⟩ := rcMay_iff.1 hr
 have hk6 : r.bl.length ≤ 6 := by have := loads_le r.its; omega
 have hkb := rcK_bytes hk6
 have e15 : i = 15 := by
  refine Classical.byContradiction fun hn => hk ?_
  rw [← (rcHd_take y).2, hy, (rcHd_take _).2, ← hkb]
  unfold rcK
  congr 1
  rw [List.drop_set]
  split
  ·rfl
  ·rw [List.take_set, List.set_eq_of_length_le (by rw [List.length_take]; omega)]
 subst e15
 cases hd : decRc y with
 | none => rfl
 | some x =>
  exfalso
  obtain ⟨r', s⟩ := x
  obtain ⟨he, hro, hfit⟩ := encRc_of_dec hd
  obtain ⟨hm', -, -⟩ := of_enc he
  obtain ⟨⟨_, _, _, g3, g6⟩, _, gbl, _⟩ := rcMay_iff.1 hm'
  have hn : rcN y = rcN (rcBytes r) := by
   have t : ∀ z : List UInt8, (z.drop 14).take 1 = ((z.take 64).drop 14).take 1 := fun z => by rw [List.drop_take, List.take_take]; rfl
   unfold rcN
   rw [t y, hy, ← t, List.drop_set, if_neg (by decide), List.take_set]
   rfl
  have hnr := rcN_bytes h6
  have hits : r'.its = r.its := by
   have h1 : r'.its = parse ((y.drop 16).take (7 * rcN y)) (rcN y) := by rw [hro]; rfl
   have h2 : (rcOf (rcBytes r)).its = parse (((rcBytes r).drop 16).take (7 * rcN (rcBytes r))) (rcN (rcBytes r)) := rfl
   rw [(rcOf_bytes hr).1] at h2
   have t : ∀ z : List UInt8, (z.drop 16).take (7 * rcN (rcBytes r)) = ((z.take 64).drop 16).take (7 * rcN (rcBytes r)) := fun z => by
    rw [List.drop_take, List.take_take, Nat.min_eq_left (by omega)]
   rw [h1, h2, hn, t y, hy, ← t, List.drop_set, if_pos (by decide)]
  have hk' : r'.bl.length = rcK y := by rw [hro]; exact rcBl_length _ _
  apply hk
  rw [← hk', gbl, hits, ← hbl]
theorem follow_bytes {d : Dk} {c : Cf} {q q1 : Ps} {r : Rc} {e : Int} (hd : d.Ok) (h : follow d c q = (some (r, q1), e)) : (1 ≤ q.o ∧ q.o ≤ c.l - 1) ∧ rcMay r = true ∧ gat d (c.at_ q.s + q.o) (1 + r.bl.length) = rcBytes r ∧ gerr d (c.at_ q.s + q.o) (1 + r.bl.length) = 0 ∧ q1.o = q.o + (1 + r.bl.length : Nat) := by
 unfold follow at h
 split at h
 ·rename_i hq
  split at h
  ·split at h
   ·cases h
   ·split at h
    ·rename_i hg
     split at h
     ·cases h
     ·rename_i r' s hdec
      split at h
      ·injection h with h1 h2
       injection h1 with h1
       injection h1 with h1 h3
       subst h1
       obtain ⟨he, -, -⟩ := encRc_of_dec hdec
       obtain ⟨hm, hb, -⟩ := of_enc he
       have hl := gat_len hd _ hg
       rw [hb, rcBytes_length hm] at hl
       have hn : sizeRc (d.read (c.at_ q.s + q.o)) = 1 + r'.bl.length := by omega
       rw [hn] at hb hg h3
       exact ⟨hq, hm, hb, hg, by rw [← h3]⟩
      ·cases h
    ·cases h
  ·cases h
 ·cases h
theorem gat_head {d : Dk} {a : Int} (hd : d.Ok) (he : d.err a = 0) : ∀ n, 1 ≤ n → (gat d a n).take 64 = d.read a
 | 1, _ => by rw [gat_one, List.take_of_length_le (by rw [Dk.read_64 hd he]; exact Nat.le_refl _)]
 | n + 2, _ => by
  have ih := gat_head hd he (n + 1) (by omega)
  have hlen : 64 ≤ (gat d a (n + 1)).length := by
   have := congrArg List.length ih
   rw [List.length_take, Dk.read_64 hd he] at this
   omega
  rw [gat_succ, List.take_append_of_le_length hlen, ih]
/-- a record of which a byte was spoilt does not follow -/
theorem follow_set {d d' : Dk} {c : Cf} {q q1 : Ps} {r : Rc} {e : Int} (hd : d.Ok) (h : follow d c q = (some (r, q1), e)) (hr : Rdy d') (h0 : 0 ≤ c.at_ q.s + q.o) (hs : c.at_ q.s + c.l ≤ d'.safe.length) {i : Nat} {v : UInt8} (hi : i < (rcBytes r).length) (hv : v ≠ (rcBytes r)[i])
  (hg : gat d' (c.at_ q.s + q.o) (1 + r.bl.length) = (rcBytes r).set i v) : follow d' c q = (none, 0) := by
 obtain ⟨hq, hm, hb, -, ho⟩ := follow_bytes hd h
 have hlen := rcBytes_length hm
 obtain ⟨_, _, ho2, _⟩ := follow_place h
 have he0 : d'.err (c.at_ q.s + q.o) = 0 := hr.err0 (has_of h0 (by omega))
 obtain ⟨n, hn⟩ : ∃ n, sizeRc (d'.read (c.at_ q.s + q.o)) = n := ⟨_, rfl⟩
 by_cases hz : n = 0 ∨ c.l < q.o + (n : Int)
 ·exact follow_size hq rfl he0 hn hz
 ·have hge : gerr d' (c.at_ q.s + q.o) n = 0 := rdy_gerr hr h0 n (by omega)
  have hh : ∀ m, 1 ≤ m → (gat d' (c.at_ q.s + q.o) m).take 64 = d'.read (c.at_ q.s + q.o) := gat_head hr.ok he0
  refine follow_dec hq rfl he0 hn hz hge ?_
  by_cases hk : n = 1 + r.bl.length
  ·rw [hk, hg]
   exact dec_set (by omega) (closed_of_enc (enc_rc hm)) hi hv
  ·refine dec_other_k hm (i := i) (v := v) (by rw [hh n (by omega), ← hh _ (by omega : 1 ≤ 1 + r.bl.length), hg]) ?_
   have hkn : rcK (gat d' (c.at_ q.s + q.o) n) + 1 = n := by
    rw [← (rcHd_take _).2, hh n (by omega)]
    have hn' := hn
    unfold sizeRc at hn'
    split at hn' <;> omega
   omega
end Go.Kn
namespace Go.Kn
open Go Go.RowKit
theorem logRun_lv (c : Cf) : ∀ (l : List KR) (q : Ps) (d : Dk), d.Live ∧ d.held = [] → (logRun c l q d).2.Live ∧ (logRun c l q d).2.held = []
 | [], q, d, h => h
 | r :: rs, q, d, h => by
  unfold logRun
  cases encRc (kMade q r) with
  | none => exact h
  | some x =>
   obtain ⟨b, s⟩ := x
   simp only
   split
   ·exact h
   ·exact logRun_lv c rs _ _ (h.1.puts _ _)
theorem laidGo_lv (c : Cf) : ∀ (l : List PR) (q : Ps) (d : Dk), d.Live ∧ d.held = [] → (laidGo c l q d).2.Live ∧ (laidGo c l q d).2.held = []
 | [], q, d, h => h
 | [x], q, d, h => logRun_lv c x.recs q d h
 | x :: y :: l, q, d, h => by
  have h1 := logRun_lv c x.recs q d h
  have ht : ∀ v b q d, d.Live ∧ d.held = [] → (turnRun c v b q d).2.Live ∧ (turnRun c v b q d).2.held = [] := by
   intro v b q d h
   unfold turnRun
   split
   ·exact (h.1.puts _ _).1.puts _ _
   ·exact h.1.puts _ _
  unfold laidGo
  split
  ·exact ht _ _ _ _ h1
  ·exact laidGo_lv c (y :: l) _ _ (ht _ _ _ _ h1)
theorem laidRun_held {c : Cf} {l : List PR} {p q : Ps} {d e : Dk} (h : laidRun c l p d = (q, e)) (hd : d.Live) : e.held = [] := by
 have := (laidGo_lv c l ⟨p.s, 1, p.l, p.p, p.m⟩ (d.puts (c.at_ p.s) (headB p)) (hd.puts _ _)).2
 rw [show laidGo c l ⟨p.s, 1, p.l, p.p, p.m⟩ (d.puts (c.at_ p.s) (headB p)) = (q, e) from h] at this
 exact this
section
variable {sg : Nat → Int} {T : Nat} {d d' : Dk} {c : Cf}
theorem has_sec (hs : Sgs c sg T) (hl : (d.safe.length : Int) = c.sectors) {y : Nat} (hy : y < 24 * T) : d.has (Sec c sg y) = true := by
 obtain ⟨g1, g2⟩ := hs.sec hy
 exact has_of (by omega) (by omega)
/-- a log of which the sector at its end, or within it, is another: just what stands ahead is told -/
theorem RL.cut (hs : Sgs c sg T) (hT : T ≤ 8) {p q : Ps} {l : List (Ps × Rc)} {Y : Nat} (h : RL c sg T d ⟨p.s, 1, p.l, p.p, p.m⟩ l Y q) (hp : p.s = sg 0) (ho : p.o = 0) (hl : p.l ≤ 1000) {k : Nat} (hk : k ≤ l.length) :
  ∃ (qk : Ps) (Yk : Nat), PlY sg T Yk qk ∧ c.at_ qk.s + qk.o = Sec c sg Yk ∧ (∀ x, l[k]? = some x → x.1 = qk) ∧ (k = l.length → qk = q) ∧ (∀ x, l[k]? = some x → ∃ q1, follow d c qk = (some (x.2, q1), 0) ∧ q1.o = qk.o + 1) ∧
   ∀ (d' : Dk) (e : Int), (∀ z, z < 24 * T → z ≠ Yk → d'.err (Sec c sg z) = d.err (Sec c sg z) ∧ d'.read (Sec c sg z) = d.read (Sec c sg z)) → follow d' c qk = (none, e) → chainR d' c p = (l.take k, qk, e) := by
 obtain ⟨Yk, qk, h1, h2, h3⟩ := h.run.split k hk
 have hpl := h1.pl
 refine ⟨qk, Yk, hpl.2.1, hpl.2.1.sec, h3, fun e => ?_, fun x hx => ?_, fun d' e ha hf => ?_⟩
 ·subst e
  rw [List.drop_length] at h2
  cases h2
  rfl
 ·have hd : l.drop k = x :: l.drop (k + 1) := by
   obtain ⟨hk2, hx2⟩ := List.getElem?_eq_some_iff.1 hx
   rw [← hx2]
   exact List.drop_eq_getElem_cons hk2
  rw [hd] at h2
  cases h2 with
  | cons _ hf ho1 _ _ => exact ⟨_, hf, ho1⟩
  | turn _ hf ho1 _ _ _ => exact ⟨_, hf, ho1⟩
 ·have hr : Run c sg T d' 1 ⟨p.s, 1, p.l, p.p, p.m⟩ (l.take k) Yk qk := h1.agr (fun y a b => ha y (by have := hpl.2.1.lt; omega) (by omega))
  have hlt := hpl.2.1.lt
  have ho1 := hpl.2.1.o1
  have e3 : Sec c sg 0 = c.at_ (sg 0) := Sec_head 0
  obtain ⟨a1, a2⟩ := ha 0 (by omega) (by omega)
  rw [e3] at a1 a2
  have hh : Hd d' c ⟨p.s, 0, p.l, p.p, p.m⟩ := by
   rw [hp]
   exact ⟨a1.trans h.hd.e, a2.trans h.hd.r, h.hd.may⟩
  exact hr.told hs hT hh hf hl ho
/-- one bit of one sector of the log is turned -/
theorem RL.flip (hs : Sgs c sg T) (hT : T ≤ 8) {p q : Ps} {l : List (Ps × Rc)} {Y : Nat} (h : RL c sg T d ⟨p.s, 1, p.l, p.p, p.m⟩ l Y q) (hp : p.s = sg 0) (ho : p.o = 0) (hl : p.l ≤ 1000) {k : Nat} (hk : k < l.length) :
  ∃ qk : Ps, (∀ x, l[k]? = some x → x.1 = qk) ∧ (0 ≤ qk.s ∧ qk.s ≤ c.s - 1) ∧ (1 ≤ qk.o ∧ qk.o ≤ 23) ∧ (0 ≤ c.at_ qk.s ∧ c.at_ qk.s ≤ 4096) ∧ d.err (c.at_ qk.s + qk.o) = 0 ∧ (d.read (c.at_ qk.s + qk.o)).length = 64 ∧
   ∀ (i : Nat) (v u : UInt8), (d.read (c.at_ qk.s + qk.o))[i]? = some u → v ≠ u → (d.write (c.at_ qk.s + qk.o) ((d.read (c.at_ qk.s + qk.o)).set i v)).2 = 0 ∧ chainR (d.write (c.at_ qk.s + qk.o) ((d.read (c.at_ qk.s + qk.o)).set i v)).1 c p = (l.take k, qk, 0) := by
 obtain ⟨qk, Yk, h1, h2, h3, h4, h5, h6⟩ := h.cut hs hT hp ho hl (Nat.le_of_lt hk)
 have hseg := h1.seg hs
 have ho2 := h1.o
 have ho3 := h1.o1
 have hcl := hs.l
 obtain ⟨g1, g2, g3⟩ := Cf.sec c hs.ok qk.s hseg.1 hseg.2
 have hh := has_sec hs h.len h1.lt
 obtain ⟨gg1, gg2⟩ := hs.sec h1.lt
 have hlen := h.len
 have he := h.rdy.err0 hh
 obtain ⟨q1, hf, hq1⟩ := h5 l[k] (List.getElem?_eq_getElem hk)
 obtain ⟨_, b2, b3, _, b5⟩ := follow_bytes h.rdy.ok hf
 have hbl : l[k].2.bl.length = 0 := by omega
 rw [hbl] at b3
 change gat d (c.at_ qk.s + qk.o) 1 = _ at b3
 rw [gat_one, h2] at b3
 have h64 : (d.read (Sec c sg Yk)).length = 64 := Dk.read_64 h.rdy.ok he
 refine ⟨qk, h3, hseg, by omega, by omega, by rw [h2]; exact he, by rw [h2]; exact h64, ?_⟩
 rw [h2]
 intro i v u hu hv
 have hi : i < 64 := by have := (List.getElem?_eq_some_iff.1 hu).1; omega
 have hw := h.rdy.write (a := Sec c sg Yk) (b := (d.read (Sec c sg Yk)).set i v) hh (by rw [List.length_set]; exact h64)
 refine ⟨by rw [Dk.write_go h.rdy.live hh (by rw [List.length_set]; exact h64)], h6 _ 0 (fun z hz hn => ?_) ?_⟩
 ·obtain ⟨g5, g6⟩ := hs.sec hz
  have hne := hs.ne hz h1.lt hn
  exact h.rdy.write_agr hh (by rw [List.length_set]; exact h64) (lo := Sec c sg z) (hi := Sec c sg z + 1) (by omega) (by omega) _ (Int.le_refl _) (by omega)
 ·have hrd : (d.write (Sec c sg Yk) ((d.read (Sec c sg Yk)).set i v)).1.read (Sec c sg Yk) = (d.read (Sec c sg Yk)).set i v := by
   refine hw.1.read_sec (has_of (by omega) (by rw [hw.2.2]; omega)) ?_
   rw [hw.2.1, List.getElem?_set_self (by rw [Dk.now_length]; omega)]
  refine follow_set (i := i) (v := v) h.rdy.ok hf hw.1 (by omega) (by rw [hw.2.2]; omega) (by rw [← b3]; omega) ?_ ?_
  ·intro e
   apply hv
   rw [e]
   have := (List.getElem?_eq_some_iff.1 hu).2
   rw [← this]
   simp only [b3]
  ·rw [hbl]
   show gat _ (c.at_ qk.s + qk.o) 1 = _
   rw [gat_one, h2, hrd, b3]
end
end Go.Kn
namespace Go.Kn
open Go Go.RowKit
structure PR.Ok (x : PR) : Prop where
 n : x.recs.length ≤ 20
 wf : ∀ y ∈ x.recs, y.Wf
 next : (Lit.int .i64 x.next).wf = true
/-- where a log is that is being laid -/
structure LdOk (cf : Cf) (b : Int) (q : Ps) (d : Dk) : Prop where
 ps : PsOk cf q
 o : 1 ≤ q.o
 m : 1 ≤ q.m ∧ q.m ≤ 2097152 + b
 l : 1 ≤ q.l ∧ q.l ≤ 2097152 + b
 p : 0 ≤ q.p ∧ q.p ≤ 4294967295
 lv : d.Live
 hh : d.held = []
theorem LdOk.log {cf : Cf} (hc : cf.Ok) : ∀ (l : List KR) {b : Int} {q : Ps} {d : Dk}, LdOk cf b q d → LdOk cf (b + 3 * (l.length : Int)) (logRun cf l q d).1 (logRun cf l q d).2 ∧ (logRun cf l q d).1.s = q.s
 | [], b, q, d, h => ⟨by simpa [logRun] using h, rfl⟩
 | r :: rs, b, q, d, h => by
  have wid : ∀ {b' : Int}, b ≤ b' → LdOk cf b' q d := fun hb => ⟨h.ps, h.o, ⟨h.m.1, by have := h.m.2; omega⟩, ⟨h.l.1, by have := h.l.2; omega⟩, h.p, h.lv, h.hh⟩
  cases he : encRc (kMade q r) with
  | none =>
   rw [Go.Proofs.YtgcfdjcpcclcjaaGreat.logRun_none he]
   exact ⟨wid (by simp only [List.length_cons]; omega), rfl⟩
  | some bs =>
   obtain ⟨by_, sm⟩ := bs
   by_cases hf : cf.l - 1 < q.o + ((by_.length / 64 : Nat) : Int)
   ·rw [Go.Proofs.YtgcfdjcpcclcjaaGreat.logRun_far he hf]
    exact ⟨wid (by simp only [List.length_cons]; omega), rfl⟩
   ·rw [Go.Proofs.YtgcfdjcpcclcjaaGreat.logRun_go he hf]
    obtain ⟨_, _, _, _, _, e1, e2, e3⟩ := enc_some he
    have hp := h.ps.next hc he hf
    have hm : (kMade q r).m ≤ q.m + 3 := by show kMount q r ≤ _; unfold kMount; have := h.m.1; omega
    have hn : (kMade q r).n ≤ q.l + 2 := by show kLsn q r ≤ _; unfold kLsn; have := h.l.1; omega
    have h2 : LdOk cf (b + 3) ⟨q.s, q.o + ((by_.length / 64 : Nat) : Int), (kMade q r).n + 1, (sm : Nat), (kMade q r).m⟩ (d.puts (cf.at_ q.s + q.o) by_) :=
     ⟨hp, by show 1 ≤ q.o + _; have := h.o; omega, ⟨e1.1, by show (kMade q r).m ≤ _; have := h.m.2; omega⟩, ⟨by show 1 ≤ (kMade q r).n + 1; omega, by show (kMade q r).n + 1 ≤ _; have := h.l.2; omega⟩, ⟨by show 0 ≤ ((sm : Nat) : Int); omega, by show ((sm : Nat) : Int) ≤ _; omega⟩, (h.lv.puts _ _).1, (h.lv.puts _ _).2⟩
    obtain ⟨g1, g2⟩ := LdOk.log hc rs h2
    refine ⟨?_, g2⟩
    rw [List.length_cons, show b + 3 * ((rs.length + 1 : Nat) : Int) = b + 3 + 3 * (rs.length : Int) from by push_cast; omega]
    exact g1
theorem LdOk.turn {cf : Cf} (hc : cf.Ok) {b v : Int} {q : Ps} {d : Dk} (h : LdOk cf b q d) (hb : b ≤ 100000) (hv : 0 ≤ v ∧ v ≤ cf.s - 1) : LdOk cf (b + 1) (turnRun cf v true q d).1 (turnRun cf v true q d).2 := by
 have hs := hc.2.1
 obtain ⟨k1, _⟩ := nextR_ok (q := q) (v := v) ⟨h.m.1, by have := h.m.2; omega⟩ ⟨h.l.1, by have := h.l.2; omega⟩ h.p ⟨hv.1, by omega⟩
 have hsum := rcSum_lt2 k1
 unfold turnRun
 rw [if_pos rfl]
 have hl2 := (h.lv.puts (cf.at_ q.s + q.o) (rcBytes (nextR q v))).1
 have hm := h.m
 have hl := h.l
 refine ⟨⟨⟨by show -1000000000000 ≤ q.m ∧ q.m ≤ 1000000000000; omega, by show -1000000000000 ≤ q.l + 1 ∧ q.l + 1 ≤ 1000000000000; omega, by show -1000000000000 ≤ ((rcSum (nextR q v) : Nat) : Int) ∧ ((rcSum (nextR q v) : Nat) : Int) ≤ 1000000000000; omega⟩, hv, by show (0 : Int) ≤ 1 ∧ (1 : Int) ≤ 64; decide⟩, by show (1 : Int) ≤ 1; decide, ⟨hm.1, by show q.m ≤ _; omega⟩, ⟨by show 1 ≤ q.l + 1; omega, by show q.l + 1 ≤ _; omega⟩, ⟨by show 0 ≤ ((rcSum (nextR q v) : Nat) : Int); omega, by show ((rcSum (nextR q v) : Nat) : Int) ≤ _; omega⟩, (hl2.puts _ _).1, (hl2.puts _ _).2⟩
/-- parts of a log in the world -/
structure Prts (w : World) (A : Option Addr) (n c : Nat) (l : List PR) (ss : List ((Option Addr × Nat × Nat) × List (Option Addr × Nat × Nat))) : Prop where
 len : l.length = n
 sl : ss.length = n
 le : n ≤ c
 cm : c ≤ maxLen
 at_ : 0 < n → ∃ g o, A = some ⟨g, o, none⟩ ∧ ∀ i (h : i < l.length) (h2 : i < ss.length), w.cell? ⟨g, o + i * 3, none⟩ = some (slv ss[i].1) ∧ w.cell? ⟨g, o + i * 3 + 1, none⟩ = some (.int .i64 l[i].next) ∧ w.cell? ⟨g, o + i * 3 + 2, none⟩ = some (.bool l[i].lost)
 ks : ∀ i (h : i < l.length) (h2 : i < ss.length), Krs w ss[i].1.1 ss[i].1.2.1 ss[i].1.2.2 l[i].recs ss[i].2
theorem laidGo_one (c : Cf) (x : PR) (q : Ps) (d : Dk) : laidGo c [x] q d = logRun c x.recs q d := by rw [laidGo]
theorem laidGo_lost {c : Cf} {x : PR} {l : List PR} {q : Ps} {d : Dk} (hl : l ≠ []) (h : x.lost = true) : laidGo c (x :: l) q d = turnRun c (x.next % c.s) false (logRun c x.recs q d).1 (logRun c x.recs q d).2 := by
 cases l with
 | nil => exact absurd rfl hl
 | cons y l => rw [laidGo, if_pos h]
theorem laidGo_on {c : Cf} {x : PR} {l : List PR} {q : Ps} {d : Dk} (hl : l ≠ []) (h : x.lost = false) : laidGo c (x :: l) q d = laidGo c l (turnRun c (x.next % c.s) true (logRun c x.recs q d).1 (logRun c x.recs q d).2).1 (turnRun c (x.next % c.s) true (logRun c x.recs q d).1 (logRun c x.recs q d).2).2 := by
 cases l with
 | nil => exact absurd rfl hl
 | cons y l => rw [laidGo, if_neg (by rw [h]; simp)]
end Go.Kn
namespace Go.Kn
open Go Go.RowKit
theorem bits_xor_u8_nat (a b : Nat) (ha : a < 256) (hb : b < 256) : bits .xor .u8 (a : Int) (b : Int) = ((a ^^^ b : Nat) : Int) := by
 have hx : a ^^^ b < 2 ^ 8 := Nat.xor_lt_two_pow (by omega) (by omega)
 have h1 : (BitVec.ofInt 8 (a : Int)).toNat = a := by
  rw [BitVec.ofInt_natCast, BitVec.toNat_ofNat]; exact Nat.mod_eq_of_lt (by omega)
 have h2 : (BitVec.ofInt 8 (b : Int)).toNat = b := by
  rw [BitVec.ofInt_natCast, BitVec.toNat_ofNat]; exact Nat.mod_eq_of_lt (by omega)
 show IntKind.u8.wrap ((BitVec.ofInt 8 (a : Int) ^^^ BitVec.ofInt 8 (b : Int)).toNat : Int) = _
 rw [BitVec.toNat_xor, h1, h2]
 simp [IntKind.wrap, IntKind.signed, IntKind.bits]
 omega
theorem shl_u8 (k : Nat) (hk : k < 8) : IntKind.u8.wrap (2 ^ k) = ((2 ^ k : Nat) : Int) := by
 have h : ∀ k : Fin 8, IntKind.u8.wrap (2 ^ k.val) = ((2 ^ k.val : Nat) : Int) := by decide
 exact h ⟨k, hk⟩
theorem flip_byte (c : UInt8) (k : Nat) (hk : k < 8) : bits .xor .u8 (c.toNat : Int) (2 ^ k) = ((UInt8.ofNat (c.toNat ^^^ 2 ^ k)).toNat : Int) := by
 have h := bits_xor_u8_nat c.toNat (2 ^ k) c.toNat_lt (Nat.pow_lt_pow_right (by omega) hk)
 rw [UInt8.toNat_ofNat', Nat.mod_eq_of_lt (xor_pow_lt c k hk), ← h]
 simp
end Go.Kn
namespace Go.Kn
open Go Go.RowKit
/-- a gathered slice that is written no more: a fact -/
theorem Wc.gout {w0 w : World} {L : List (Nat × List Value)} {G : List Gs} {F : List (World → Prop)} {e n c : Nat} {A : Option Addr} {xs : List Value} (h : Wc w0 w L (⟨e, 1, .slice A n c, n, xs⟩ :: G) F) : Wc w0 w L G ((fun W => Row1 W A n c xs) :: F) := by
 have hr := (Row1.of_owns (h.gi 0 rfl)).1
 refine h.gdrop.addF _ (Row1.fc hr fun hn a ha hm => ?_)
 subst ha
 have hob : (Value.slice (some a) n c).ownBlock = some a.block := rfl
 rcases hm with hm | ⟨y, hy, hk⟩
 ·obtain ⟨x, hx, e1⟩ := List.mem_map.1 hm
  exact h.g3 x hx _ List.mem_cons_self (by rw [hob, e1])
 ·exact (List.pairwise_cons.1 h.g2).1 y hy _ hob hk
theorem ownsRow_zero {w : World} {b e sz n c g o : Nat} {p : Option Nat} {xs : List Value} (h : w.ownsRow b e sz (.slice (some ⟨g, o, p⟩) n c) n xs) : o = 0 ∧ p = none := by
 rcases h.2 with ⟨hv, _⟩ | ⟨g', cap, cur, hv, _⟩
 ·cases hv
 ·injection hv with e1
  injection e1 with e1
  injection e1 with e1 e2 e3
  exact ⟨e2, e3⟩
/-- where the records of a log stand -/
theorem Laid.first {d : Dk} {c : Cf} {q q' : Ps} {l : List (Ps × Rc)} (h : Laid d c q l q') : (l.map (·.1.o) ++ [q'.o])[0]? = some q.o := by
 cases h with
 | nil _ => rfl
 | cons h1 h2 h3 => rfl
theorem flip_ne (x : UInt8) (m : Nat) (hm : m < 8) : UInt8.ofNat (x.toNat ^^^ 2 ^ m) ≠ x := by
 intro h
 have h1 := congrArg UInt8.toNat h
 rw [UInt8.toNat_ofNat', Nat.mod_eq_of_lt (xor_pow_lt x m hm)] at h1
 have h2 := congrArg (fun z => z.testBit m) h1
 simp only [Nat.testBit_xor, Nat.testBit_two_pow_self] at h2
 cases hb : x.toNat.testBit m <;> rw [hb] at h2 <;> simp at h2
end Go.Kn
namespace Go.Proofs.YtgcfdjcpcclcjaaGreat
open Go Go.RowKit Go.Kn
section
variable {w0 w w' : World} {p : PD} {r : RD} {d e : Dk} {L : List (Nat × List Value)} {G : List Gs} {F : List (World → Prop)}
theorem Duo.gnew (h : Duo w0 w p r d e ⟨L, G, F⟩) (t sz : Nat) : Duo w0 w p r d e ⟨L, ⟨t, sz, .slice none 0 0, 0, []⟩ :: G, F⟩ := by
 obtain ⟨L0, G0, F0, hw, back⟩ := h.fr
 exact back w ⟨L, _ :: G, F⟩ (hw.gnew t sz)
theorem Duo.gapp (h : Duo w0 w p r d e ⟨L, G, F⟩) (i : Nat) {x : Gs} (hi : G[i]? = some x) {v' : Value} {n' : Nat} {ys : List Value} (ho : w'.ownsRow w0.heap.size x.e x.sz v' n' ys) (hg : w.grownBy w' x.v.ownBlock) (hat : v'.ownBlock = x.v.ownBlock ∨ v'.ownBlock = some w.heap.size) : Duo w0 w' p r d e ⟨L, G.set i ⟨x.e, x.sz, v', n', ys⟩, F⟩ := by
 obtain ⟨L0, G0, F0, hw, back⟩ := h.fr
 have hlt : i < G.length := (List.getElem?_eq_some_iff.1 hi).1
 have hw2 := hw.gapp i (x := x) (by show (G ++ G0)[i]? = _; rw [List.getElem?_append_left hlt]; exact hi) ho hg hat
 refine back _ ⟨L, G.set i ⟨x.e, x.sz, v', n', ys⟩, F⟩ ?_
 show Wc w0 w' (L ++ L0) (G.set i ⟨x.e, x.sz, v', n', ys⟩ ++ G0) (F ++ F0)
 rw [← List.set_append_left _ _ hlt]
 exact hw2
theorem Duo.gset (h : Duo w0 w p r d e ⟨L, G, F⟩) (i : Nat) {x : Gs} (hi : G[i]? = some x) {g : Nat} (hg : x.v.ownBlock = some g) (o : Nat) (u : Value) : Duo w0 (w.setCell ⟨g, o, none⟩ u) p r d e ⟨L, G.set i ⟨x.e, x.sz, x.v, x.n, x.xs.set o u⟩, F⟩ := by
 obtain ⟨L0, G0, F0, hw, back⟩ := h.fr
 have hlt : i < G.length := (List.getElem?_eq_some_iff.1 hi).1
 have hw2 := hw.gset i (x := x) (by show (G ++ G0)[i]? = _; rw [List.getElem?_append_left hlt]; exact hi) hg o u
 refine back _ ⟨L, G.set i ⟨x.e, x.sz, x.v, x.n, x.xs.set o u⟩, F⟩ ?_
 show Wc w0 _ (L ++ L0) (G.set i ⟨x.e, x.sz, x.v, x.n, x.xs.set o u⟩ ++ G0) (F ++ F0)
 rw [← List.set_append_left _ _ hlt]
 exact hw2
theorem Duo.gadd (h : Duo w0 w p r d e ⟨L, G, F⟩) (hO : Only [] w w') {t sz n : Nat} {v : Value} {xs : List Value} (ho : w'.ownsRow w.heap.size t sz v n xs) : Duo w0 w' p r d e ⟨L, ⟨t, sz, v, n, xs⟩ :: G, F⟩ := by
 obtain ⟨L0, G0, F0, hw, back⟩ := h.fr
 exact back w' ⟨L, _ :: G, F⟩ (hw.gadd hO ho)
theorem Duo.gdrop {x : Gs} (h : Duo w0 w p r d e ⟨L, x :: G, F⟩) : Duo w0 w p r d e ⟨L, G, F⟩ := by
 obtain ⟨L0, G0, F0, hw, back⟩ := h.fr
 exact back w ⟨L, G, F⟩ hw.gdrop
theorem Duo.gout {t n c : Nat} {A : Option Addr} {xs : List Value} (h : Duo w0 w p r d e ⟨L, ⟨t, 1, .slice A n c, n, xs⟩ :: G, F⟩) : Duo w0 w p r d e ⟨L, G, (fun W => Row1 W A n c xs) :: F⟩ := by
 obtain ⟨L0, G0, F0, hw, back⟩ := h.fr
 exact back w ⟨L, G, _ :: F⟩ hw.gout
theorem Duo.gown {t sz n g c : Nat} {xs : List Value} (h : Duo w0 w p r d e ⟨L, ⟨t, sz, .slice (some ⟨g, 0, none⟩) n c, n, xs⟩ :: G, F⟩) : Kn.Own w g xs := by
 obtain ⟨L0, G0, F0, hw, back⟩ := h.fr
 exact (Wc.gbox hw).boxi 0 rfl
theorem Duo.gform (h : Duo w0 w p r d e ⟨L, G, F⟩) (i : Nat) {t sz n : Nat} {v : Value} {xs : List Value} (hi : G[i]? = some ⟨t, sz, v, n, xs⟩) : ∃ A c, v = .slice A n c := by
 obtain ⟨L0, G0, F0, hw, back⟩ := h.fr
 have hlt : i < G.length := (List.getElem?_eq_some_iff.1 hi).1
 exact hw.gform i (by show (G ++ G0)[i]? = _; rw [List.getElem?_append_left hlt]; exact hi)
theorem Duo.gi (h : Duo w0 w p r d e ⟨L, G, F⟩) (i : Nat) {x : Gs} (hi : G[i]? = some x) : w.ownsRow w0.heap.size x.e x.sz x.v x.n x.xs := h.row (List.mem_of_getElem? hi)
/-- the cells of a gathered row of single cells -/
theorem Duo.grow (h : Duo w0 w p r d e ⟨L, G, F⟩) (i : Nat) {t n c : Nat} {A : Option Addr} {xs : List Value} (hi : G[i]? = some ⟨t, 1, .slice A n c, n, xs⟩) : Row1 w A n c xs := (Row1.of_owns (h.gi i hi)).1
theorem duo_read_own (h : Duo w0 w p r d e ⟨L, G, F⟩) (a : Int) :
  Calls Tryz.prog 23 #[.pointer (some ⟨p.D, 0, none⟩), .int .i64 a] w fun en w' => ∃ A n c, en = .returned (.tuple #[.slice A n c, .int .i64 (d.err a)]) ∧ Duo w0 w' p r d e ⟨L, ⟨5, 1, .slice A n c, n, bvs (d.read a)⟩ :: G, F⟩ ∧ Only [] w w' := by
 obtain ⟨L0, G0, F0, hw, hd, back⟩ := h.dk
 refine (dk_read_own w p d a (hd.rd (fun x hx => hw.own x (List.mem_append_right _ hx)) (fun x hx => hx))).mono ?_
 rintro en w1 ⟨v, n, rfl, ho, hO⟩
 have hw2 := hw.gadd hO ho
 obtain ⟨A, c, rfl⟩ := hw2.gform 0 rfl
 exact ⟨A, n, c, rfl, back w1 ⟨L, _ :: G, F⟩ hw2, hO⟩
theorem duo_write {c : Fr3} (h : Duo w0 w p r d e c) (a : Int) (A : Option Addr) (n cc : Nat) (b : List UInt8) (hb : (fun W => Bys W A n cc b) ∈ c.F) (hh : d.held.length ≤ 1000000) :
  Calls Tryz.prog 24 #[.pointer (some ⟨p.D, 0, none⟩), .int .i64 a, .slice A n cc] w fun en w' => en = .returned (.int .i64 (d.write a b).2) ∧ Duo w0 w' p r (d.write a b).1 e c := by
 obtain ⟨c1, hF, hP, back⟩ := h.ofP
 refine (dk_write_any w0 w p d c1 a A n cc b hP (hF _ hb) hh).mono ?_
 rintro en w1 ⟨rfl, h1⟩
 exact ⟨rfl, back _ _ h1⟩
end
end Go.Proofs.YtgcfdjcpcclcjaaGreat
namespace Go.Kn
open Go Go.RowKit
/-- a record of a lower Mount stands at a place -/
def Low (d : Dk) (c : Cf) (q : Ps) : Prop := ∃ r : Rc, rcMay r = true ∧ r.bl = [] ∧ gat d (c.at_ q.s + q.o) 1 = rcBytes r ∧ gerr d (c.at_ q.s + q.o) 1 = 0 ∧ r.m < q.m
theorem Low.none_ {d : Dk} {c : Cf} {q : Ps} (h : Low d c q) : follow d c q = (none, 0) := by
 obtain ⟨r, hm, hb, hg, he, hl⟩ := h
 by_cases hin : 1 ≤ q.o ∧ q.o ≤ c.l - 1
 ·have hlen := rcBytes_length hm
  rw [hb] at hlen
  have hs := sizeRc_laid hm
  rw [hb, List.take_of_length_le (by rw [hlen]; decide)] at hs
  rw [gat_one] at hg
  have he2 := he
  rw [gerr_one] at he2
  have hsz : sizeRc (d.read (c.at_ q.s + q.o)) = 1 := by rw [hg]; exact hs
  rw [follow_rec hin rfl he2 hsz (by omega) he (by rw [gat_one, hg]; exact dec_rc hm), if_neg (by intro h; omega)]
 ·exact follow_out hin
theorem Low.agr {d d' : Dk} {c : Cf} {q : Ps} {lo hi : Int} (h : Low d c q) (ha : Agr d d' lo hi) (h1 : lo ≤ c.at_ q.s + q.o) (h2 : c.at_ q.s + q.o + 1 ≤ hi) : Low d' c q := by
 obtain ⟨r, hm, hb, hg, he, hl⟩ := h
 obtain ⟨e1, e2⟩ := gat_agr ha h1 1 (by omega)
 exact ⟨r, hm, hb, e1.trans hg, e2.trans he, hl⟩
structure Mt (d : Dk) (c : Cf) (q0 q : Ps) (want : Nat) (down : Bool) : Prop where
 rdy : Rdy d
 len : (d.safe.length : Int) = c.sectors
 zs : ∀ x, c.at_ q.s + q.o ≤ x → x < c.at_ q.s + c.l → d.read x = List.replicate 64 0
 s : q.s = q0.s
 o0 : 1 ≤ q0.o ∧ q0.o + want ≤ q.o
 o1 : q.o ≤ c.l - 1
 s0 : 0 ≤ q0.s ∧ q0.s ≤ c.s - 1
 st : (down = false ∧ ∃ l : List (Ps × Rc), l.length = want ∧ Laid d c q0 l q ∧ q.o = q0.o + want) ∨ (down = true ∧ ∃ (l : List (Ps × Rc)) (qf : Ps), l.length = want ∧ Laid d c q0 l qf ∧ qf.o = q0.o + want ∧ Low d c qf ∧ qf.o + 1 ≤ q.o)
theorem Mt.start {d : Dk} {c : Cf} {q0 q : Ps} (h : Lg d c q0 [] q) (hq : q = q0) : Mt d c q0 q 0 false := by
 subst hq
 exact ⟨h.rdy, h.len, h.zs, rfl, ⟨h.o0, by simp⟩, h.o1, h.s0, .inl ⟨rfl, [], rfl, h.laid, by simp⟩⟩
theorem Mt.step {d : Dk} {c : Cf} {q0 q : Ps} {want : Nat} {down : Bool} (h : Mt d c q0 q want down) (hc : c.Ok) {r : Rc} (hr : rcMay r = true) (hb : r.bl = []) (hn : r.n = q.l) (hp : r.p = q.p) (hx : nextOf r = none) (hf : q.o + 1 ≤ c.l - 1) :
  Mt (d.puts (c.at_ q.s + q.o) (rcBytes r)) c q0 ⟨q.s, q.o + 1, q.l + 1, (rcSum r : Nat), r.m⟩ (if (down || decide (r.m < q.m)) = true then want else want + 1) (down || decide (r.m < q.m)) := by
 obtain ⟨g1, g2, g3⟩ := Cf.sec c hc q.s (by rw [h.s]; exact h.s0.1) (by rw [h.s]; exact h.s0.2)
 have hl := h.len
 obtain ⟨ho0, ho1⟩ := h.o0
 have hlen := rcBytes_length hr
 rw [hb] at hlen
 have hlen' : (rcBytes r).length = 64 * 1 := hlen
 have hpt := h.rdy.puts (a := c.at_ q.s + q.o) (by omega) hlen' (by omega)
 have hg := h.rdy.puts_gat (a := c.at_ q.s + q.o) (by omega) hlen' (by omega)
 have hag := h.rdy.puts_agr (a := c.at_ q.s + q.o) (lo := c.at_ q.s) (hi := c.at_ q.s + q.o) (by omega) hlen' (by omega) (by omega) (.inl (Int.le_refl _))
 refine ⟨hpt.1, by rw [hpt.2.2]; exact hl, ?_, h.s, ⟨ho0, ?_⟩, by simp only; omega, h.s0, ?_⟩
 ·intro x hx1 hx2
  simp only at hx1 hx2
  have := h.rdy.puts_agr (a := c.at_ q.s + q.o) (lo := x) (hi := x + 1) (by omega) hlen' (by omega) (by omega) (.inr (by omega)) x (Int.le_refl _) (by omega)
  rw [this.2]
  exact h.zs x (by omega) (by omega)
 ·simp only; split <;> omega
 ·rcases h.st with ⟨rfl, l, h1, h2, h3⟩ | ⟨rfl, l, qf, h1, h2, h3, h4, h5⟩
  ·have hpl := h2.place
   have hla := h2.agr hag (by rw [← h.s]; omega) (by rw [← h.s]; exact Int.le_refl _)
   by_cases hk : r.m < q.m
   ·rw [Bool.false_or, decide_eq_true hk, if_pos rfl]
    exact .inr ⟨rfl, l, q, h1, hla, h3, ⟨r, hr, hb, hg.1, hg.2, hk⟩, by simp⟩
   ·rw [Bool.false_or, decide_eq_false hk, if_neg (by decide)]
    refine .inl ⟨rfl, l ++ [(q, r)], by rw [List.length_append, h1]; rfl, hla.snoc ?_ hx, by simp only; omega⟩
    have := follow_laid (c := c) (q := q) hr (by rw [hb]; exact hg.1) (by rw [hb]; exact hg.2) hpt.1.ok (by omega) (by rw [hb]; simp; omega) hn hp (by omega)
    rw [hb] at this
    exact this
  ·rw [Bool.true_or, if_pos rfl]
   have hpl := h2.place
   refine .inr ⟨rfl, l, qf, h1, h2.agr hag (by rw [← h.s]; omega) (by rw [← h.s]; omega), h3, h4.agr hag (by rw [hpl.1, ← h.s]; omega) (by rw [hpl.1, ← h.s]; omega), by simp only; omega⟩
theorem Mt.scan {d : Dk} {c : Cf} {q0 q : Ps} {want : Nat} {down : Bool} (h : Mt d c q0 q want down) (hc : c.Ok) : ∃ (l : List (Ps × Rc)) (qf : Ps), scanG d c 65 q0 = (l, qf, 0) ∧ l.length = want ∧ qf.o = q0.o + want := by
 have hll := hc.2.2
 have ho1 := h.o1
 obtain ⟨ho0, ho2⟩ := h.o0
 rcases h.st with ⟨rfl, l, h1, h2, h3⟩ | ⟨rfl, l, qf, h1, h2, h3, h4, h5⟩
 ·refine ⟨l, q, h2.told ho0 (by omega) ?_, h1, h3⟩
  obtain ⟨g1, g2, g3⟩ := Cf.sec c hc q.s (by rw [h.s]; exact h.s0.1) (by rw [h.s]; exact h.s0.2)
  have hl := h.len
  exact follow_zero (h.rdy.err0 (has_of (by omega) (by omega))) (h.zs _ (Int.le_refl _) (by omega))
 ·exact ⟨l, qf, h2.told ho0 (by omega) h4.none_, h1, h3⟩
end Go.Kn
namespace Go.Kn
open Go Go.RowKit
/-- a disk of a device, ready, of which nothing is held -/
structure Std (d : Dk) (c : Cf) : Prop where
 rdy : Rdy d
 len : (d.safe.length : Int) = c.sectors
 held : d.held = []
theorem Std.start (c : Cf) (hc : c.Ok) : Std (Dk.new c.sectors.toNat) c := by
 obtain ⟨g1, g2, g3⟩ := Cf.sec c hc 0 (by decide) (by have := hc.2.1; omega)
 have hl := hc.2.2
 exact ⟨Rdy.new (by omega) (by omega), by simp [Dk.new]; omega, rfl⟩
theorem Std.puts {d : Dk} {c : Cf} (h : Std d c) {a : Int} {b : List UInt8} {n : Nat} (ha : 0 ≤ a) (hb : b.length = 64 * n) (hr : a + n ≤ c.sectors) : Std (d.puts a b) c := by
 have hl := h.len
 obtain ⟨h1, h2, h3⟩ := h.rdy.puts (a := a) (b := b) (n := n) ha hb (by omega)
 exact ⟨h1, by rw [h3]; exact hl, (h.rdy.live.puts a b).2⟩
theorem Std.head {d : Dk} {c : Cf} (h : Std d c) (hc : c.Ok) (p : Ps) (hs : 0 ≤ p.s ∧ p.s ≤ c.s - 1) : Std (d.puts (c.at_ p.s) (headB p)) c := by
 obtain ⟨g1, g2, g3⟩ := Cf.sec c hc p.s hs.1 hs.2
 have hl := hc.2.2
 exact h.puts (n := 1) (by omega) (headB_length p) (by omega)
theorem Std.log {c : Cf} (hc : c.Ok) : ∀ (l : List KR) (q : Ps) (d : Dk), Std d c → PsOk c q → Std (logRun c l q d).2 c
 | [], q, d, h, _ => h
 | r :: rs, q, d, h, hq => by
  cases he : encRc (kMade q r) with
  | none => rw [Go.Proofs.YtgcfdjcpcclcjaaGreat.logRun_none he]; exact h
  | some x =>
   obtain ⟨b, s⟩ := x
   by_cases hf : c.l - 1 < q.o + ((b.length / 64 : Nat) : Int)
   ·rw [Go.Proofs.YtgcfdjcpcclcjaaGreat.logRun_far he hf]; exact h
   ·rw [Go.Proofs.YtgcfdjcpcclcjaaGreat.logRun_go he hf]
    obtain ⟨g1, g2, g3⟩ := Cf.sec c hc q.s hq.s.1 hq.s.2
    obtain ⟨_, _, _, hb, _⟩ := enc_some he
    have ho := hq.o
    refine Std.log hc rs _ _ (h.puts (n := b.length / 64) (by omega) (by omega) (by omega)) (hq.next hc he hf)
end Go.Kn
namespace Go.Proofs.YtgcfdjcpcclcjaaGreat
open Go Go.RowKit Go.Kn
section
variable {w0 w w' : World} {p : PD} {r : RD} {d e : Dk} {L : List (Nat × List Value)} {G : List Gs} {F : List (World → Prop)}
theorem Duo.sub (h : Duo w0 w p r d e ⟨L, G, F⟩) {L' : List (Nat × List Value)} {G' : List Gs} {F' : List (World → Prop)} (hL : L'.Sublist L) (hG : G'.Sublist G) (hF : ∀ f ∈ F', f ∈ F) : Duo w0 w p r d e ⟨L', G', F'⟩ := by
 obtain ⟨L0, G0, F0, hw, back⟩ := h.fr
 exact back w ⟨L', G', F'⟩ ((hw.sub (hL.append_right L0) (F' := F' ++ F0) (fun f hf => (List.mem_append.1 hf).elim (fun h => List.mem_append_left _ (hF f h)) (List.mem_append_right _))).subG (hG.append_right G0))
end
end Go.Proofs.YtgcfdjcpcclcjaaGreat
namespace Go.Kn
open Go Go.RowKit
theorem Its.one {w : World} {g : Nat} {k b c v : Int} (h : Own w g [.int .i64 k, .int .i64 b, .int .i64 c, .int .i64 v]) : Its w (some ⟨g, 0, none⟩) 1 1 [⟨k, b, c, v⟩] :=
 ⟨rfl, Nat.le_refl _, by decide, fun _ => ⟨g, 0, rfl, fun i hi => by
  obtain rfl : i = 0 := by simp at hi; omega
  exact ⟨h.cell 0 (by simp), h.cell 1 (by simp), h.cell 2 (by simp), h.cell 3 (by simp)⟩⟩⟩
end Go.Kn
namespace Go.Proofs.YtgcfdjcpcclcjaaGreat
open Go Go.RowKit Go.Kn
theorem Duo.boxi {w0 w : World} {p : PD} {r : RD} {d e : Dk} {c : Fr3} (h : Duo w0 w p r d e c) (i : Nat) {x : Nat × List Value} (hi : c.L[i]? = some x) : Kn.Own w x.1 x.2 := h.box (List.mem_of_getElem? hi)
set_option maxRecDepth 100000 in
set_option maxHeartbeats 8000000 in
theorem kit_turn_any (w0 w : World) (p : PD) (r : RD) (d : Dk) (c : Fr3) (cf : Cf) (q : Ps) (v : Int) (hb : Bool) (h : Duo w0 w p r d d c) (hc : cf.Ok) (hq : PsOk cf q) (hm : 1 ≤ q.m ∧ q.m ≤ 2147483647) (hl : 1 ≤ q.l ∧ q.l ≤ 2147483646) (hp : 0 ≤ q.p ∧ q.p ≤ 4294967295) (hv : 0 ≤ v ∧ v ≤ cf.s - 1) (hlv : d.Live) (hh : d.held = []) :
  Calls Tryz.prog 138 #[.pointer (some ⟨p.D, 0, none⟩), .pointer (some ⟨r.M, 0, none⟩), .agg #[.int .i64 cf.b, .int .i64 cf.s, .int .i64 cf.l], .agg #[.int .i64 q.s, .int .i64 q.o, .int .i64 q.l, .int .i64 q.p, .int .i64 q.m], .int .i64 v, .bool hb] w (LogSays w0 p r c (turnRun cf v hb q d)) := by
 have hres : Tryz.f138.results = #[.cell 12 32, .tmp 13] := by kernel_rfl
 have HRES := Lib.hid hres
 have hs32 := hc.2.1
 obtain ⟨hmy, -⟩ := nextR_ok (q := q) (v := v) hm ⟨hl.1, by omega⟩ hp ⟨hv.1, by omega⟩
 have HENC := Lib.hid (enc_rc hmy)
 have H64 := Lib.hid (rcBytes_64 hmy rfl)
 have hsum := rcSum_lt2 hmy
 have hmay : headMay (nextP q v 0).head = true := head_may ⟨hv.1, by omega⟩ ⟨by omega, by omega⟩ ⟨by omega, by omega⟩ hm
 have HMAY := Lib.hid hmay
 have HAT := Lib.hid (hq.at_ hc)
 have HC := Lib.hid hc
 have HV := Lib.hid hv
 have HHE := Lib.hid hh
 have HLV := Lib.hid hlv
 have HQO := Lib.hid hq.o
 have hqo := hq.o
 have hw1 := IntWalk.i64_in (q.l + 1) (by omega)
 have hs1 : (w.alloc (.cells #[.int .i64 cf.b, .int .i64 cf.s, .int .i64 cf.l] 25)).heap.size = w.heap.size + 1 := by simp
 have hs2 : ((w.alloc (.cells #[.int .i64 cf.b, .int .i64 cf.s, .int .i64 cf.l] 25)).alloc (.cells #[.int .i64 q.s, .int .i64 q.o, .int .i64 q.l, .int .i64 q.p, .int .i64 q.m] 32)).heap.size = w.heap.size + 1 + 1 := by simp
 have H := Lib.hid (((h.newB #[.int .i64 cf.b, .int .i64 cf.s, .int .i64 cf.l] 25 rfl).newB #[.int .i64 q.s, .int .i64 q.o, .int .i64 q.l, .int .i64 q.p, .int .i64 q.m] 32 hs1).newB #[.int .i64 0, .int .i64 0, .int .i64 0, .int .i64 0, .int .i64 0] 32 hs2)
 clear h hres hc hq hmy hmay hv hh hlv
 go_enter Tryz.func138, Tryz.ntmps138
 go_upto_region 1 with (fail)
 (try rw [hs2])
 (try rw [hs1])
 generalize hz1 : ((w.alloc (.cells #[.int .i64 cf.b, .int .i64 cf.s, .int .i64 cf.l] 25)).alloc (.cells #[.int .i64 q.s, .int .i64 q.o, .int .i64 q.l, .int .i64 q.p, .int .i64 q.m] 32)).alloc (.cells #[.int .i64 0, .int .i64 0, .int .i64 0, .int .i64 0, .int .i64 0] 32) = w1 at *
 clear hz1 hs1 hs2
 generalize w.heap.size = fb at *
 generalize fb + 1 = fp at *
 generalize fp + 1 = fo at *
 obtain ⟨p0, p1, p2, p3, p4⟩ := own5 (H.out.box (x := (fp, [.int .i64 q.s, .int .i64 q.o, .int .i64 q.l, .int .i64 q.p, .int .i64 q.m])) (by simp))
 have HA := Lib.hid (H.out.newB #[.int .i64 7, .int .i64 0, .int .i64 0, .int .i64 v] 63 rfl)
 have HIT := Lib.hid (Its.one (HA.out.boxi 0 rfl))
 clear H
 go_wp2_with fail
 refine (ref_rec_enc_any q.m q.l q.p (some ⟨w1.heap.size, 0, none⟩) 1 1 [⟨7, 0, 0, v⟩] none 0 0 [] _ HIT.out (Blks.nil _)).mono ?_
 rintro en w2 hen
 rw [show (⟨q.m, q.l, q.p, [⟨7, 0, 0, v⟩], []⟩ : Rc) = nextR q v from rfl, HENC.out] at hen
 obtain ⟨g2, c2, rfl, hbc, hcm2, hg2, hown, hO⟩ := EncRc.of_some hen
 rw [H64.out] at hbc ⊢
 have HD := Lib.hid ((HA.out.addFc hO (f := fun W => Bys W (some ⟨g2, 0, none⟩) 64 c2 (rcBytes (nextR q v))) (Row1.fc (Row1.of_Own hown (by rw [bvs_length, H64.out]) hbc hcm2) (fun _ a ha => by injection ha with ha; subst ha; exact Nat.not_lt.2 hg2))).ldrop)
 clear hen hbc hcm2 hg2 hown hO HA HIT p0 p1 p2 p3 p4
 go_wp2_with fail
 have HY := Lib.hid HD.out.drew
 clear HD
 refine wp_region_held_drew (S := (fun w' => Kn.Own w' fp [.int .i64 q.s, .int .i64 q.o, .int .i64 q.l, .int .i64 q.p, .int .i64 q.m] ∧ Kn.Own w' fb [.int .i64 cf.b, .int .i64 cf.s, .int .i64 cf.l])) (by kernel_rfl) ⟨HY.out.box (x := (fp, [.int .i64 q.s, .int .i64 q.o, .int .i64 q.l, .int .i64 q.p, .int .i64 q.m])) (by simp), HY.out.box (x := (fb, [.int .i64 cf.b, .int .i64 cf.s, .int .i64 cf.l])) (by simp)⟩ (fun hSw0 => ?_)
 generalize w2.drew = wz at *
 refine Kn.takeS 0 ⟨some 34, _, _, _, _, _⟩ ?_
 refine Kn.takeS 1 ⟨some 35, _, _, _, _, _⟩ ?_
 refine Kn.takeS 2 ⟨some 36, _, _, _, _, _⟩ ?_
 refine Kn.takeS 3 ⟨some 37, _, _, _, _, _⟩ ?_
 refine Kn.takeS 4 ⟨some 38, _, _, _, _, _⟩ ?_
 refine Kn.takeS 5 ⟨some 39, _, _, _, _, _⟩ (v := (.agg #[.int .i64 cf.b, .int .i64 cf.s, .int .i64 cf.l])) (hy := fun w hSw => by
  have q0 := hSw.2
  obtain ⟨q00, q01, q02⟩ := Kn.own3 q0
  clear q0
  go_simp) ?_
 refine Kn.takeS 6 ⟨some 40, _, _, _, _, _⟩ ?_
 refine Kn.takeS 7 ⟨some 41, _, _, _, _, _⟩ (v := (.int .i64 q.s)) (hy := fun w hSw => by
  have q0 := Kn.own1 hSw.1
  go_simp) ?_
 refine Kn.takeS 9 ⟨some 43, _, _, _, _, _⟩ ?_
 refine Kn.takeS 10 ⟨some 44, _, _, _, _, _⟩ (v := (.int .i64 q.o)) (hy := fun w hSw => by
  have q0 := hSw.1.cell 1 (by simp)
  simp only [List.getElem_cons_zero, List.getElem_cons_succ] at q0
  go_simp) ?_
 refine Kn.takeS 12 ⟨some 46, _, _, _, _, _⟩ ?_
 refine Kn.takeR 8 ⟨some 42, _, _, _, _, _⟩ fun K hK => ?_
 go_simp
 refine (ref_segat_any cf q.s _ HC.out).mono ?_
 rintro en wu ⟨rfl, hO⟩
 have HY2 := Lib.hid (HY.out.keep0 hO)
 clear hO HY
 have hat := HAT.out
 have hw3 := IntWalk.i64_in (cf.at_ q.s + q.o) (by omega)
 clear hat
 refine hK.out _ _ ⟨HY2.out.box (x := (fp, [.int .i64 q.s, .int .i64 q.o, .int .i64 q.l, .int .i64 q.p, .int .i64 q.m])) (by simp), HY2.out.box (x := (fb, [.int .i64 cf.b, .int .i64 cf.s, .int .i64 cf.l])) (by simp)⟩ (fun hSn => ?_)
 clear hK K hSw0
 have hSw0 := hSn
 clear hSn
 refine Kn.takeS 11 ⟨some 45, _, _, _, _, _⟩ ?_
 refine Kn.takeR 13 ⟨some 47, _, _, _, _, _⟩ fun K hK => ?_
 go_simp
 refine (kit_put_any w0 _ p r d _ (cf.at_ q.s + q.o) (some ⟨g2, 0, none⟩) 64 c2 (rcBytes (nextR q v)) HY2.out List.mem_cons_self (by rw [HHE.out]; simp) (by decide) (by have := HAT.out; omega)).mono ?_
 rintro en wv ⟨rfl, hd⟩
 have HY3 := Lib.hid hd
 clear hd HY2
 refine hK.out _ _ ⟨HY3.out.box (x := (fp, [.int .i64 q.s, .int .i64 q.o, .int .i64 q.l, .int .i64 q.p, .int .i64 q.m])) (by simp), HY3.out.box (x := (fb, [.int .i64 cf.b, .int .i64 cf.s, .int .i64 cf.l])) (by simp)⟩ (fun hSn => ?_)
 clear hK K hSw0
 have hSw0 := hSn
 clear hSn
 refine Kn.takeS 14 ⟨some 48, _, _, _, _, _⟩ ?_
 refine Kn.takeS 15 ⟨some 49, _, _, _, _, _⟩ ?_
 refine wpAnyH_done (by kernel_rfl) ?_ _
 clear hSw0
 obtain ⟨p0, p1, p2, p3, p4⟩ := own5 (HY3.out.box (x := (fp, [.int .i64 q.s, .int .i64 q.o, .int .i64 q.l, .int .i64 q.p, .int .i64 q.m])) (by simp))
 go_upto_region 5 with (fail)
 have HN := Lib.hid (HY3.out.newB #[.int .i64 v, .int .i64 0, .int .i64 (q.l + 1), .int .i64 ((rcSum (nextR q v) : Nat) : Int), .int .i64 q.m] 32 rfl)
 generalize hz : wv.alloc (.cells #[.int .i64 v, .int .i64 0, .int .i64 (q.l + 1), .int .i64 ((rcSum (nextR q v) : Nat) : Int), .int .i64 q.m] 32) = wn at *
 generalize wv.heap.size = fn at *
 clear hz HY3 p0 p1 p2 p3 p4
 obtain ⟨n0, n1, n2, n3, n4⟩ := own5 (HN.out.boxi 0 rfl)
 have z := HN.out.box (x := (fo, [.int .i64 0, .int .i64 0, .int .i64 0, .int .i64 0, .int .i64 0])) (by simp)
 have z0 := z.frozen 0
 have z1 := z.frozen 1
 have z2 := z.frozen 2
 have z3 := z.frozen 3
 have z4 := z.frozen 4
 obtain ⟨o0, o1, o2, o3, o4⟩ := Kn.own5 z
 clear z
 cases hb with
 | false =>
  go_wp2_with fail
  have HEND := Lib.hid (Duo.subF ((HN.out.call 1 rfl (own_set5 (HN.out.box (x := (fo, [.int .i64 0, .int .i64 0, .int .i64 0, .int .i64 0, .int .i64 0])) (by simp)) (.int .i64 v) (.int .i64 0) (.int .i64 (q.l + 1)) (.int .i64 ((rcSum (nextR q v) : Nat) : Int)) (.int .i64 q.m)) (only_set5 _ fo _ _ _ _ _)).ldrop.ldrop.ldrop.ldrop) (F' := c.F) (fun f hf => by simp [hf]))
  (try simp only [Exit.inBlock, Exit.then])
  refine bodyPost_ret (v := .tuple #[.agg #[.int .i64 v, .int .i64 0, .int .i64 (q.l + 1), .int .i64 ((rcSum (nextR q v) : Nat) : Int), .int .i64 q.m], .bool true]) ?_ rfl ?_
  ·simp only [results, HRES.out]
   go_simp
  ·exact ⟨rfl, HEND.out⟩
 | true =>
  obtain ⟨e0, e1, e2⟩ := own3 (HN.out.box (x := (fb, [.int .i64 cf.b, .int .i64 cf.s, .int .i64 cf.l])) (by simp))
  go_wp2_with fail
  refine (kit_head_any w0 _ p r _ _ cf (nextP q v 0) HN.out HC.out HMAY.out HV.out.2 (by rw [(HLV.out.puts _ _).2]; simp)).mono ?_
  rintro en wh ⟨rfl, hd⟩
  have HH := Lib.hid hd
  clear hd HN n0 n1 n2 n3 n4 e0 e1 e2 z0 o0 z1 o1 z2 o2 z3 o3 z4 o4
  obtain ⟨n0, n1, n2, n3, n4⟩ := own5 (HH.out.boxi 0 rfl)
  have hfr := (HH.out.boxi 0 rfl).frozen 1
  have hlt := (HH.out.boxi 0 rfl).lt
  go_upto_region 9 with (fail)
  have HH2 := Lib.hid (HH.out.put 0 rfl 1 (.int .i64 1))
  simp only [List.set_cons_zero, List.set_cons_succ] at HH2
  generalize wh.setCell ⟨fn, 1, none⟩ (.int .i64 1) = wi at *
  clear n0 n1 n2 n3 n4 hfr hlt HH
  obtain ⟨n0, n1, n2, n3, n4⟩ := own5 (HH2.out.boxi 0 rfl)
  have z := HH2.out.box (x := (fo, [.int .i64 0, .int .i64 0, .int .i64 0, .int .i64 0, .int .i64 0])) (by simp)
  have z0 := z.frozen 0
  have z1 := z.frozen 1
  have z2 := z.frozen 2
  have z3 := z.frozen 3
  have z4 := z.frozen 4
  obtain ⟨o0, o1, o2, o3, o4⟩ := Kn.own5 z
  clear z
  go_wp2_with fail
  have HEND := Lib.hid (Duo.subF ((HH2.out.call 1 rfl (own_set5 (HH2.out.box (x := (fo, [.int .i64 0, .int .i64 0, .int .i64 0, .int .i64 0, .int .i64 0])) (by simp)) (.int .i64 v) (.int .i64 1) (.int .i64 (q.l + 1)) (.int .i64 ((rcSum (nextR q v) : Nat) : Int)) (.int .i64 q.m)) (only_set5 _ fo _ _ _ _ _)).ldrop.ldrop.ldrop.ldrop) (F' := c.F) (fun f hf => by simp [hf]))
  (try simp only [Exit.inBlock, Exit.then])
  refine bodyPost_ret (v := .tuple #[.agg #[.int .i64 v, .int .i64 1, .int .i64 (q.l + 1), .int .i64 ((rcSum (nextR q v) : Nat) : Int), .int .i64 q.m], .bool true]) ?_ rfl ?_
  ·simp only [results, HRES.out]
   go_simp
  ·exact ⟨rfl, HEND.out⟩
end Go.Proofs.YtgcfdjcpcclcjaaGreat
namespace Go.Kn
open Go Go.RowKit
def CB (D gb : Nat) (p e : Ps) (er : Int) : List Value :=
 [.pointer (some ⟨D, 0, none⟩), .pointer (some ⟨gb, 0, none⟩), .int .i64 p.s, .int .i64 p.o, .int .i64 p.l, .int .i64 p.p, .int .i64 p.m, .int .i64 e.s, .int .i64 e.o, .int .i64 e.l, .int .i64 e.p, .int .i64 e.m, .int .i64 er]
end Go.Kn
namespace Go.Proofs.YtgcfdjcpcclcjaaGreat
open Go Go.RowKit Go.Kn
theorem chain_new_any {wb : World} (w0 w : World) (D gb : Nat) (p : Ps) (L : List (Nat × List Value)) (G : List Gs) (F : List (World → Prop)) (hw : Wk w0 wb w L G F) :
  Calls Tryz.prog 56 #[.pointer (some ⟨D, 0, none⟩), .pointer (some ⟨gb, 0, none⟩), .agg #[.int .i64 p.s, .int .i64 p.o, .int .i64 p.l, .int .i64 p.p, .int .i64 p.m]] w fun en w' => ∃ C, en = .returned (.pointer (some ⟨C, 0, none⟩)) ∧ Wk w0 wb w' ((C, CB D gb p p 0) :: L) G F := by
 have H := Lib.hid hw
 clear hw
 go_enter Tryz.func56, Tryz.ntmps56
 go_wp2
 go_ret
 exact ⟨_, rfl, (H.out.alloc (.cells #[.int .i64 p.s, .int .i64 p.o, .int .i64 p.l, .int .i64 p.p, .int .i64 p.m] 32)).newB #[.pointer (some ⟨D, 0, none⟩), .pointer (some ⟨gb, 0, none⟩), .int .i64 p.s, .int .i64 p.o, .int .i64 p.l, .int .i64 p.p, .int .i64 p.m, .int .i64 p.s, .int .i64 p.o, .int .i64 p.l, .int .i64 p.p, .int .i64 p.m, .int .i64 0] 205 (by simp)⟩
set_option maxRecDepth 100000 in
theorem chain_new_none (w : World) (gb : Nat) (p : Ps) :
  Calls Tryz.prog 56 #[.pointer none, .pointer (some ⟨gb, 0, none⟩), .agg #[.int .i64 p.s, .int .i64 p.o, .int .i64 p.l, .int .i64 p.p, .int .i64 p.m]] w fun en w' => en = .returned (.pointer none) ∧ Only [] w w' := by
 go_enter Tryz.func56, Tryz.ntmps56
 go_wp2
 go_ret
 exact ⟨rfl, (Only.refl _ _).alloc _⟩
set_option maxRecDepth 100000 in
theorem chain_end_any (w : World) (C D gb : Nat) (p e : Ps) (er : Int) (h : Kn.Own w C (CB D gb p e er)) :
  Calls Tryz.prog 58 #[.pointer (some ⟨C, 0, none⟩)] w fun en w' => en = .returned (.agg #[.int .i64 e.s, .int .i64 e.o, .int .i64 e.l, .int .i64 e.p, .int .i64 e.m]) ∧ Only [] w w' := by
 have hres : Tryz.f58.results = #[.cell 2 32] := by kernel_rfl
 have HRES := Lib.hid hres
 have c0 := h.cellv 7
 have c1 := h.cellv 8
 have c2 := h.cellv 9
 have c3 := h.cellv 10
 have c4 := h.cellv 11
 have hlt := h.lt
 clear h hres
 go_enter Tryz.func58, Tryz.ntmps58
 go_wp2
 (try simp only [Exit.inBlock, Exit.then])
 refine bodyPost_ret (v := .agg #[.int .i64 e.s, .int .i64 e.o, .int .i64 e.l, .int .i64 e.p, .int .i64 e.m]) ?_ rfl ⟨rfl, ?_⟩
 ·simp only [results, HRES.out]
  go_simp
 ·exact (Only.refl _ _).alloc _
set_option maxRecDepth 100000 in
theorem chain_err_any (w : World) (C D gb : Nat) (p e : Ps) (er : Int) (h : Kn.Own w C (CB D gb p e er)) :
  Calls Tryz.prog 59 #[.pointer (some ⟨C, 0, none⟩)] w fun en w' => en = .returned (.int .i64 er) ∧ w = w' := by
 have c0 := h.cellv 12
 clear h
 go_enter Tryz.func59, Tryz.ntmps59
 go_wp2
 go_ret
 exact ⟨rfl, rfl⟩
set_option maxRecDepth 100000 in
theorem chain_err_none (w : World) : Calls Tryz.prog 59 #[.pointer none] w fun en w' => en = .returned (.int .i64 1) ∧ w = w' := by
 go_enter Tryz.func59, Tryz.ntmps59
 go_wp2
 go_ret
 exact ⟨rfl, rfl⟩
theorem chain_records_any (p : Option Addr) (w : World) : Calls Tryz.prog 137 #[.pointer p] w fun e w' => e = .returned (.func (.func 179) #[] #[.pointer (some ⟨w.heap.size, 0, none⟩)]) ∧ w' = w.alloc (.cells #[.pointer p] 113) := by
 go_enter Tryz.func137, Tryz.ntmps137
 go_wp2
 go_ret
 exact ⟨rfl, rfl⟩
set_option maxRecDepth 100000 in
set_option maxHeartbeats 4000000 in
theorem chain_on_any (w0 w : World) (C D gb : Nat) (cf : Cf) (p e : Ps) (er : Int) (x : Rc) (s t : Option Addr × Nat × Nat) (q : Ps) (L : List (Nat × List Value)) (G : List Gs) (F : List (World → Prop)) (hw : Wc w0 w L G F) (hC : (C, CB D gb p e er) ∈ L) (hx : (fun W => RcAt W x s t) ∈ F) (hg : (fun W => GeoAt W gb cf.b cf.s cf.l) ∈ F) (hc : cf.Ok) (hn : ∀ v, nextOf x = some v → 0 ≤ v ∧ v ≤ 31) :
  Calls Tryz.prog 180 #[.pointer (some ⟨C, 0, none⟩), .agg (x.cells s t), .agg #[.int .i64 q.s, .int .i64 q.o, .int .i64 q.l, .int .i64 q.p, .int .i64 q.m]] w fun en w' => en = .returned (.tuple #[.agg #[.int .i64 (onP cf x q).1.s, .int .i64 (onP cf x q).1.o, .int .i64 (onP cf x q).1.l, .int .i64 (onP cf x q).1.p, .int .i64 (onP cf x q).1.m], .bool (onP cf x q).2]) ∧ Only [] w w' := by
 have hres : Tryz.f180.results = #[.cell 6 32, .tmp 7] := by kernel_rfl
 have HRES := Lib.hid hres
 obtain ⟨s1, s2, s3⟩ := s
 obtain ⟨t1, t2, t3⟩ := t
 have HX := Lib.hid hx
 have HGE := Lib.hid hg
 have HC := Lib.hid hc
 have HCC := Lib.hid hC
 have hO := ((((Only.refl [] w).alloc (.cells #[.int .i64 x.m, .int .i64 x.n, .int .i64 x.p, .slice s1 s2 s3, .slice t1 t2 t3] 56)).alloc (.cells #[.int .i64 q.s, .int .i64 q.o, .int .i64 q.l, .int .i64 q.p, .int .i64 q.m] 32)).alloc (.cells #[.int .i64 0, .int .i64 0, .int .i64 0, .int .i64 0, .int .i64 0] 32))
 have H := Lib.hid ((((hw.newB #[.int .i64 x.m, .int .i64 x.n, .int .i64 x.p, .slice s1 s2 s3, .slice t1 t2 t3] 56 (b := w.heap.size) rfl).newB #[.int .i64 q.s, .int .i64 q.o, .int .i64 q.l, .int .i64 q.p, .int .i64 q.m] 32 (b := w.heap.size + 1) (by simp)).newB #[.int .i64 0, .int .i64 0, .int .i64 0, .int .i64 0, .int .i64 0] 32 (b := w.heap.size + 1 + 1) (by simp)))
 clear hres hx hg hc hC hw
 simp only [Rc.cells, slv]
 go_enter Tryz.func180, Tryz.ntmps180
 go_upto_region 1 with (fail)
 have hs1 : (w.alloc (.cells #[.int .i64 x.m, .int .i64 x.n, .int .i64 x.p, .slice s1 s2 s3, .slice t1 t2 t3] 56)).heap.size = w.heap.size + 1 := by simp
 have hs2 : ((w.alloc (.cells #[.int .i64 x.m, .int .i64 x.n, .int .i64 x.p, .slice s1 s2 s3, .slice t1 t2 t3] 56)).alloc (.cells #[.int .i64 q.s, .int .i64 q.o, .int .i64 q.l, .int .i64 q.p, .int .i64 q.m] 32)).heap.size = w.heap.size + 1 + 1 := by simp
 try rw [hs2]
 try rw [hs1]
 generalize hz1 : (((w.alloc (.cells #[.int .i64 x.m, .int .i64 x.n, .int .i64 x.p, .slice s1 s2 s3, .slice t1 t2 t3] 56)).alloc (.cells #[.int .i64 q.s, .int .i64 q.o, .int .i64 q.l, .int .i64 q.p, .int .i64 q.m] 32)).alloc (.cells #[.int .i64 0, .int .i64 0, .int .i64 0, .int .i64 0, .int .i64 0] 32)) = w1 at *
 clear hz1 hs1 hs2
 obtain ⟨b4, hb4⟩ : ∃ k, k = w.heap.size := ⟨_, rfl⟩
 rw [← hb4] at H ⊢
 obtain ⟨b5, hb5⟩ : ∃ k, k = b4 + 1 := ⟨_, rfl⟩
 rw [← hb5] at H ⊢
 obtain ⟨b6, hb6⟩ : ∃ k, k = b5 + 1 := ⟨_, rfl⟩
 rw [← hb6] at H ⊢
 have hle5 : w.heap.size ≤ b5 := by omega
 have hle6 : w.heap.size ≤ b6 := by omega
 have hn56 : b5 ≠ b6 := by omega
 have hn65 : b6 ≠ b5 := by omega
 clear hb4 hb5 hb6
 have HO := Lib.hid hO
 clear hO
 obtain ⟨r0, r1, r2, r3, r4⟩ := own5 (H.out.boxi 2 rfl)
 go_wp2_with fail
 refine (rec_next_any x (s1, s2, s3) (t1, t2, t3) _ (H.out.fact _ HX.out).1).mono ?_
 rintro en w2 ⟨rfl, hO⟩
 have H2 := Lib.hid (H.out.keep0 hO)
 have HO2 := Lib.hid (HO.out.trans' hO)
 clear hO H HO r0 r1 r2 r3 r4
 have bC := H2.out.box (List.mem_cons_of_mem _ (List.mem_cons_of_mem _ (List.mem_cons_of_mem _ HCC.out)))
 have g1 := bC.cellv 1
 have lC := bC.lt
 obtain ⟨q0, q1, q2, q3, q4⟩ := own5 (H2.out.boxi 1 rfl)
 have y0 := (H2.out.boxi 1 rfl).frozen 0
 have y1 := (H2.out.boxi 1 rfl).frozen 1
 have l5 := (H2.out.boxi 1 rfl).lt
 have b6 := H2.out.boxi 0 rfl
 have z0 := b6.frozen 0
 have z1 := b6.frozen 1
 have z2 := b6.frozen 2
 have z3 := b6.frozen 3
 have z4 := b6.frozen 4
 have l6 := b6.lt
 obtain ⟨k0, k1, k2, k3, k4⟩ := own5 b6
 clear bC
 clear b6
 cases hnx : nextOf x with
 | none =>
  have HON := Lib.hid (onP_none (c := cf) (q := q) hnx)
  simp only [Option.getD_none, Option.isSome_none]
  clear hnx hn
  go_wp2
  (try simp only [Exit.inBlock, Exit.then])
  refine bodyPost_ret (v := .tuple #[.agg #[.int .i64 q.s, .int .i64 q.o, .int .i64 q.l, .int .i64 q.p, .int .i64 q.m], .bool false]) ?_ rfl ⟨?_, ?_⟩
  ·simp only [results, HRES.out]
   go_simp
  ·rw [HON.out]
   try rfl
  ·exact (((((HO2.out.set (.inr hle6) _).set (.inr hle6) _).set (.inr hle6) _).set (.inr hle6) _).set (.inr hle6) _)
 | some v =>
  obtain ⟨hv0, hv1⟩ := hn v hnx
  simp only [Option.getD_some, Option.isSome_some]
  have hss : 8 ≤ cf.s ∧ cf.s ≤ 32 := HC.out.2.1
  go_wp2_with fail
  refine (geom_has_any gb cf.b cf.s cf.l v _ (H2.out.fact _ HGE.out) HC.out).mono ?_
  rintro en w3 ⟨rfl, rfl⟩
  by_cases hv : v ≤ cf.s - 1
  ·have hd : decide (0 ≤ v ∧ v ≤ cf.s - 1) = true := decide_eq_true ⟨hv0, hv⟩
   have HON := Lib.hid (onP_some (c := cf) (q := q) hnx hv)
   rw [hd]
   clear hnx hn hd
   go_wp2
   (try simp only [Exit.inBlock, Exit.then])
   refine bodyPost_ret (v := .tuple #[.agg #[.int .i64 v, .int .i64 0, .int .i64 q.l, .int .i64 q.p, .int .i64 q.m], .bool true]) ?_ rfl ⟨?_, ?_⟩
   ·simp only [results, HRES.out]
    go_simp
   ·rw [HON.out]
    try rfl
   ·exact (((((((HO2.out.set (.inr hle5) _).set (.inr hle5) _).set (.inr hle6) _).set (.inr hle6) _).set (.inr hle6) _).set (.inr hle6) _).set (.inr hle6) _)
  ·have hd : decide (0 ≤ v ∧ v ≤ cf.s - 1) = false := decide_eq_false (fun h => hv h.2)
   have HON := Lib.hid (onP_far (c := cf) (q := q) hnx hv)
   rw [hd]
   clear hnx hn hd
   go_wp2
   (try simp only [Exit.inBlock, Exit.then])
   refine bodyPost_ret (v := .tuple #[.agg #[.int .i64 q.s, .int .i64 q.o, .int .i64 q.l, .int .i64 q.p, .int .i64 q.m], .bool false]) ?_ rfl ⟨?_, ?_⟩
   ·simp only [results, HRES.out]
    go_simp
   ·rw [HON.out]
    try rfl
   ·exact (((((HO2.out.set (.inr hle6) _).set (.inr hle6) _).set (.inr hle6) _).set (.inr hle6) _).set (.inr hle6) _)
end Go.Proofs.YtgcfdjcpcclcjaaGreat
namespace Go.Kn
open Go Go.RowKit
/-- a mark behind a range over a function -/
def mkD (D : Nat) : Deferred := { target := .collected D, args := #[] }
def Marks (B : Nat) (Ds : List Nat) (W : World) : Prop := (∀ D ∈ Ds, B ≤ D ∧ W.heap[D]? = some (.deferred (some []))) ∧ Ds.Nodup
theorem marks_many {F : Fence} {n : Nat} {P : Program} {fn : Func} {tmps : Array Value} {R : Ending → World → Prop} {B : Nat} (Inv : World → Prop) (hput : ∀ (W : World) D, Inv W → B ≤ D → W.heap[D]? = some (.deferred (some [])) → Inv (W.putObj D (.deferred none)))
  (hfin : ∀ W, Inv W → ∃ v, (results fn tmps).run P W = .ok v W ∧ R (.returned v) W) : ∀ (Ds : List Nat) (W : World), Inv W → Marks B Ds W → LeavesInM F n P fn tmps R (Ds.map mkD) .returning W
 | [], W, h, _ => by
  obtain ⟨v, h1, h2⟩ := hfin W h
  exact ⟨v, h1, h2⟩
 | D :: Ds, W, h, hm => by
  obtain ⟨h1, h2⟩ := hm
  obtain ⟨hD, hK⟩ := h1 D List.mem_cons_self
  obtain ⟨hn, h2⟩ := List.nodup_cons.1 h2
  refine ⟨by simp, .inl ⟨D, _, rfl, run_takeDeferred hK, marks_many Inv hput hfin Ds _ (hput _ _ h hD hK) ⟨fun E hE => ?_, h2⟩⟩⟩
  obtain ⟨g1, g2⟩ := h1 E (List.mem_cons_of_mem _ hE)
  exact ⟨g1, (World.putObj_heap_other (fun e => hn (by rw [← e]; exact hE))).trans g2⟩
theorem Marks.kb {B C : Nat} {Ds : List Nat} {X Y : World} (h : Marks B Ds X) (hk : Kb C X Y) (hC : ∀ D ∈ Ds, D < C) : Marks B Ds Y := ⟨fun D hD => ⟨(h.1 D hD).1, hk.keep D _ (hC D hD) (h.1 D hD).2 rfl⟩, h.2⟩
theorem Marks.kf {B : Nat} {Ds : List Nat} {X Y : World} (h : Marks B Ds X) (hk : KeepsFrom B X Y) : Marks B Ds Y := ⟨fun D hD => ⟨(h.1 D hD).1, hk.same D _ (h.1 D hD).1 (h.1 D hD).2 rfl⟩, h.2⟩
theorem Marks.lt {B : Nat} {Ds : List Nat} {X : World} (h : Marks B Ds X) : ∀ D ∈ Ds, D < X.heap.size := fun D hD => lt_of_obj (h.1 D hD).2
theorem Marks.cons {B D : Nat} {Ds : List Nat} {X : World} (h : Marks B Ds X) (hB : B ≤ D) (hD : ∀ E ∈ Ds, E < D) (hK : X.heap[D]? = some (.deferred (some []))) : Marks B (D :: Ds) X :=
 ⟨fun E hE => (List.mem_cons.1 hE).elim (fun e => by rw [e]; exact ⟨hB, hK⟩) (h.1 E), List.nodup_cons.2 ⟨fun hm => Nat.lt_irrefl _ (hD D hm), h.2⟩⟩
def postM (R : Exit → Act → World → Prop) : Exit → Act → World → Prop
 | .normal, a, w => R .normal a w
 | .ret, a, w => R .ret a w
 | _, _, _ => False
theorem callsIn_of_wp_post {n : Nat} {P : Program} {f : FuncId} {fn : Func} {c : Code} {args : Array Value} {w : World} {R : Ending → World → Prop} (hf : P.funcs[f]? = some fn) (hb : fn.body = some c)
  (h : c.wpIn Fence.wide n P (postM (bodyPostM Fence.wide n P fn R)) { tmps := args ++ Array.replicate (fn.ntmps - args.size) undef, defers := [] } w) : CallsIn Fence.wide n P f args w R := by
 refine callsIn_of_wp_marks hf hb trivial (wpIn_mono h ?_) rfl
 intro e a w h
 cases e <;> first | exact h | exact h.elim
theorem not_letsOut_then {K : Act → World → Prop} {Q : Exit → Act → World → Prop} (h : ¬ LetsOut Q) : ¬ LetsOut (Exit.then K Q) := fun ⟨a, w, hq⟩ => h ⟨a, w, hq⟩
theorem cons_of {n : Nat} {us : List Value} (h : us.length = n + 1) : ∃ x t, us = x :: t ∧ t.length = n := by
 cases us with
 | nil => simp at h
 | cons x t => exact ⟨x, t, rfl, by simpa using h⟩
theorem all62 {P : List Value → Prop} (h : ∀ u4 u5 u6 u7 u8 u9 u10 u11 u12 u13 u14 u15 u16 u17 u18 u19 u20 u21 u22 u23 u24 u25 u26 u27 u28 u29 u30 u31 u32 u33 u34 u35 u36 u37 u38 u39 u40 u41 u42 u43 u44 u45 u46 u47 u48 u49 u50 u51 u52 u53 u54 u55 u56 u57 u58 u59 u60 u61 u62 u63 u64 u65 : Value, P (u4 :: u5 :: u6 :: u7 :: u8 :: u9 :: u10 :: u11 :: u12 :: u13 :: u14 :: u15 :: u16 :: u17 :: u18 :: u19 :: u20 :: u21 :: u22 :: u23 :: u24 :: u25 :: u26 :: u27 :: u28 :: u29 :: u30 :: u31 :: u32 :: u33 :: u34 :: u35 :: u36 :: u37 :: u38 :: u39 :: u40 :: u41 :: u42 :: u43 :: u44 :: u45 :: u46 :: u47 :: u48 :: u49 :: u50 :: u51 :: u52 :: u53 :: u54 :: u55 :: u56 :: u57 :: u58 :: u59 :: u60 :: u61 :: u62 :: u63 :: u64 :: u65 :: [])) : ∀ us : List Value, us.length = 62 → P us := by
 intro t3 h3
 obtain ⟨u4, t4, e4, h4⟩ := cons_of h3
 obtain ⟨u5, t5, e5, h5⟩ := cons_of h4
 obtain ⟨u6, t6, e6, h6⟩ := cons_of h5
 obtain ⟨u7, t7, e7, h7⟩ := cons_of h6
 obtain ⟨u8, t8, e8, h8⟩ := cons_of h7
 obtain ⟨u9, t9, e9, h9⟩ := cons_of h8
 obtain ⟨u10, t10, e10, h10⟩ := cons_of h9
 obtain ⟨u11, t11, e11, h11⟩ := cons_of h10
 obtain ⟨u12, t12, e12, h12⟩ := cons_of h11
 obtain ⟨u13, t13, e13, h13⟩ := cons_of h12
 obtain ⟨u14, t14, e14, h14⟩ := cons_of h13
 obtain ⟨u15, t15, e15, h15⟩ := cons_of h14
 obtain ⟨u16, t16, e16, h16⟩ := cons_of h15
 obtain ⟨u17, t17, e17, h17⟩ := cons_of h16
 obtain ⟨u18, t18, e18, h18⟩ := cons_of h17
 obtain ⟨u19, t19, e19, h19⟩ := cons_of h18
 obtain ⟨u20, t20, e20, h20⟩ := cons_of h19
 obtain ⟨u21, t21, e21, h21⟩ := cons_of h20
 obtain ⟨u22, t22, e22, h22⟩ := cons_of h21
 obtain ⟨u23, t23, e23, h23⟩ := cons_of h22
 obtain ⟨u24, t24, e24, h24⟩ := cons_of h23
 obtain ⟨u25, t25, e25, h25⟩ := cons_of h24
 obtain ⟨u26, t26, e26, h26⟩ := cons_of h25
 obtain ⟨u27, t27, e27, h27⟩ := cons_of h26
 obtain ⟨u28, t28, e28, h28⟩ := cons_of h27
 obtain ⟨u29, t29, e29, h29⟩ := cons_of h28
 obtain ⟨u30, t30, e30, h30⟩ := cons_of h29
 obtain ⟨u31, t31, e31, h31⟩ := cons_of h30
 obtain ⟨u32, t32, e32, h32⟩ := cons_of h31
 obtain ⟨u33, t33, e33, h33⟩ := cons_of h32
 obtain ⟨u34, t34, e34, h34⟩ := cons_of h33
 obtain ⟨u35, t35, e35, h35⟩ := cons_of h34
 obtain ⟨u36, t36, e36, h36⟩ := cons_of h35
 obtain ⟨u37, t37, e37, h37⟩ := cons_of h36
 obtain ⟨u38, t38, e38, h38⟩ := cons_of h37
 obtain ⟨u39, t39, e39, h39⟩ := cons_of h38
 obtain ⟨u40, t40, e40, h40⟩ := cons_of h39
 obtain ⟨u41, t41, e41, h41⟩ := cons_of h40
 obtain ⟨u42, t42, e42, h42⟩ := cons_of h41
 obtain ⟨u43, t43, e43, h43⟩ := cons_of h42
 obtain ⟨u44, t44, e44, h44⟩ := cons_of h43
 obtain ⟨u45, t45, e45, h45⟩ := cons_of h44
 obtain ⟨u46, t46, e46, h46⟩ := cons_of h45
 obtain ⟨u47, t47, e47, h47⟩ := cons_of h46
 obtain ⟨u48, t48, e48, h48⟩ := cons_of h47
 obtain ⟨u49, t49, e49, h49⟩ := cons_of h48
 obtain ⟨u50, t50, e50, h50⟩ := cons_of h49
 obtain ⟨u51, t51, e51, h51⟩ := cons_of h50
 obtain ⟨u52, t52, e52, h52⟩ := cons_of h51
 obtain ⟨u53, t53, e53, h53⟩ := cons_of h52
 obtain ⟨u54, t54, e54, h54⟩ := cons_of h53
 obtain ⟨u55, t55, e55, h55⟩ := cons_of h54
 obtain ⟨u56, t56, e56, h56⟩ := cons_of h55
 obtain ⟨u57, t57, e57, h57⟩ := cons_of h56
 obtain ⟨u58, t58, e58, h58⟩ := cons_of h57
 obtain ⟨u59, t59, e59, h59⟩ := cons_of h58
 obtain ⟨u60, t60, e60, h60⟩ := cons_of h59
 obtain ⟨u61, t61, e61, h61⟩ := cons_of h60
 obtain ⟨u62, t62, e62, h62⟩ := cons_of h61
 obtain ⟨u63, t63, e63, h63⟩ := cons_of h62
 obtain ⟨u64, t64, e64, h64⟩ := cons_of h63
 obtain ⟨u65, t65, e65, h65⟩ := cons_of h64
 obtain rfl := List.length_eq_zero_iff.1 h65
 rw [e4, e5, e6, e7, e8, e9, e10, e11, e12, e13, e14, e15, e16, e17, e18, e19, e20, e21, e22, e23, e24, e25, e26, e27, e28, e29, e30, e31, e32, e33, e34, e35, e36, e37, e38, e39, e40, e41, e42, e43, e44, e45, e46, e47, e48, e49, e50, e51, e52, e53, e54, e55, e56, e57, e58, e59, e60, e61, e62, e63, e64, e65]
 exact h u4 u5 u6 u7 u8 u9 u10 u11 u12 u13 u14 u15 u16 u17 u18 u19 u20 u21 u22 u23 u24 u25 u26 u27 u28 u29 u30 u31 u32 u33 u34 u35 u36 u37 u38 u39 u40 u41 u42 u43 u44 u45 u46 u47 u48 u49 u50 u51 u52 u53 u54 u55 u56 u57 u58 u59 u60 u61 u62 u63 u64 u65
theorem not_letsOut_postW {α : Type} {B : Nat} {w0 : World} {φ : Fr3} {J : Option Code → List α → Fr3 → World → Prop} {xs : List α} {W : World} {id : Nat} : ¬ LetsOut (Exit.inBlock id (postW B w0 φ J xs W)) := by
 rintro ⟨a, w, h⟩
 exact h
theorem perm_any {α : Type} {A B : List α} (h : ∀ (c : α → Nat), (A.map c).sum = (B.map c).sum) : A.Perm B := by
 classical
 rw [List.perm_iff_count]
 intro a
 have h1 := h (fun x => if x = a then 1 else 0)
 have e : ∀ l : List α, (l.map fun x => if x = a then 1 else 0).sum = l.count a := by
  intro l
  induction l with
  | nil => rfl
  | cons x l ih => rw [List.map_cons, List.sum_cons, ih, List.count_cons, Nat.add_comm]; simp
 rw [e, e] at h1
 exact h1
/-- what the loop has behind some records of a segment: where it goes on, and whether in another one -/
def OnSt (d : Dk) (cf : Cf) (pre : List Fnd) (e : Ps) (more : Bool) : Prop :=
 (pre = [] ∧ more = false) ∨ ∃ pre' x q', pre = pre' ++ [x] ∧ follow d cf x.p = (some (x.r, q'), 0) ∧ e = (onP cf x.r q').1 ∧ more = (onP cf x.r q').2
theorem OnSt.done {d : Dk} {cf : Cf} {xs : List Fnd} {q e : Ps} {more : Bool} (h : OnSt d cf xs e more) (hx : xs.map Fnd.pr = (scanR d cf false q).1) :
  (more = true ∧ ∃ v, nextIn cf (scanR d cf false q).1 = some v ∧ e = turnP (scanR d cf false q).2.1 v) ∨ (more = false ∧ nextIn cf (scanR d cf false q).1 = none) := by
 rcases h with ⟨rfl, rfl⟩ | ⟨pre', x, q', rfl, hf, rfl, rfl⟩
 ·exact .inr ⟨rfl, by rw [← hx]; rfl⟩
 ·rw [List.map_append] at hx
  obtain ⟨g1, g2⟩ := scanR_last hx.symm
  have g3 : (some (x.r, q'), (0 : Int)) = (some (x.r, (scanR d cf false q).2.1), 0) := hf.symm.trans g1
  injection g3 with g3
  injection g3 with g3
  injection g3 with _ g3
  rw [← g3, ← hx]
  show (_ ∧ ∃ v, nextIn cf (pre'.map Fnd.pr ++ [x.pr]) = some v ∧ _) ∨ (_ ∧ nextIn cf (pre'.map Fnd.pr ++ [x.pr]) = none)
  rw [nextIn_snoc]
  show (_ ∧ ∃ v, (nextOf x.r).filter _ = some v ∧ _) ∨ (_ ∧ (nextOf x.r).filter _ = none)
  unfold onP
  cases hn : (nextOf x.r).filter fun v => decide (v ≤ cf.s - 1) with
  | none => exact .inr ⟨rfl, rfl⟩
  | some v => exact .inl ⟨rfl, v, rfl, rfl⟩
theorem OnSt.snoc {d : Dk} {cf : Cf} {pre : List Fnd} {x : Fnd} {e q : Ps} {more : Bool} (h : OnSt d cf (pre ++ [x]) e more) (hf : follow d cf x.p = (some (x.r, q), 0)) : e = (onP cf x.r q).1 ∧ more = (onP cf x.r q).2 := by
 rcases h with ⟨h, _⟩ | ⟨pre', x', q', h, hf', he, hm⟩
 ·simp at h
 ·obtain ⟨_, h⟩ := List.append_inj' h rfl
  injection h with h
  subst h
  rw [hf] at hf'
  injection hf' with h1
  injection h1 with h1
  injection h1 with _ h1
  subst h1
  exact ⟨he, hm⟩
theorem scan_prefix_chain (d : Dk) (c : Cf) (k : Nat) (p : Ps) : (scanR d c false p).1 <+: (chainG d c (k + 1) p).1 := by
 cases hn : nextIn c (scanR d c false p).1 with
 | none => rw [chainG_none hn]; exact List.prefix_refl _
 | some v => rw [chainG_some hn]; exact List.prefix_append _ _
end Go.Kn
namespace Go.Proofs.YtgcfdjcpcclcjaaGreat
open Go Go.RowKit Go.Kn Go.Shelf
attribute [local go_sem] Oper.semAt_some
section
variable (C D gb : Nat) (d : Dk) (cf : Cf) (p : Ps) (k0 : Nat) (L : List (Nat × List Value)) (G : List Gs) (F : List (World → Prop))
def ChPre (pre : List Fnd) (x : Fnd) (φ : Fr3) : Prop := ∃ (X : List (Nat × List Value)) (q : Ps) (fs : List (World → Prop)), φ = ⟨(C, CB D gb p (onP cf x.r q).1 0) :: (X ++ L), G, fs ++ F⟩ ∧ (∀ y ∈ pre ++ [x], y.fct ∈ fs) ∧ (pre ++ [x]).map Fnd.pr <+: (chainG d cf k0 p).1 ∧ Kn.follow d cf x.p = (some (x.r, q), 0)
def ChFin (xs : List Fnd) (φ : Fr3) : Prop := ∃ (X : List (Nat × List Value)) (fs : List (World → Prop)), φ = ⟨(C, CB D gb p (chainG d cf k0 p).2.1 (chainG d cf k0 p).2.2) :: (X ++ L), G, fs ++ F⟩ ∧ (∀ y ∈ xs, y.fct ∈ fs) ∧ xs.map Fnd.pr = (chainG d cf k0 p).1
def ChFix (pre : List Fnd) (φ : Fr3) : Prop := ∃ (X : List (Nat × List Value)) (q : Ps) (fs : List (World → Prop)) (pre' : List Fnd) (x : Fnd), φ = ⟨(C, CB D gb p (onP cf x.r q).1 0) :: (X ++ L), G, fs ++ F⟩ ∧ (∀ y ∈ pre, y.fct ∈ fs) ∧ pre.map Fnd.pr <+: (chainG d cf k0 p).1 ∧ pre = pre' ++ [x] ∧ Kn.follow d cf x.p = (some (x.r, q), 0)
end
/-- what the range over a segment's records keeps -/
def ChC (C D gb : Nat) (p e : Ps) (f2 f3 f4 S l : Nat) (more : Bool) (co : Fr3) : Fr3 := ⟨(f4, [.pointer (some ⟨S, 0, none⟩)]) :: (C, CB D gb p e 0) :: (f3, [.bool more]) :: (f2, [.func (.yield l) #[] #[]]) :: co.L, co.G, co.F⟩
def ChJ (J : Option Code → List Fnd → Fr3 → World → Prop) (C D gb : Nat) (d : Dk) (cf : Cf) (p : Ps) (f2 f3 f4 S l : Nat) (told : List Fnd) (B : Nat) (Ds : List Nat) : Option Code → List Fnd → Fr3 → World → Prop
 | none, pre, c, W => ∃ (co : Fr3) (e : Ps) (more : Bool), c = ChC C D gb p e f2 f3 f4 S l more co ∧ J none (told ++ pre) co W ∧ Marks B Ds W ∧ OnSt d cf pre e more
 | some cd, pre, c, W => ∃ (co : Fr3) (e : Ps) (more : Bool) (cd' : Code), c = ChC C D gb p e f2 f3 f4 S l more co ∧ cd = .ret ∧ J (some cd') (told ++ pre) co W ∧ Marks B Ds W ∧ OnSt d cf pre e more
set_option maxRecDepth 100000 in
set_option maxHeartbeats 8000000 in
theorem chrec1_seq (w0 W : World) (C b1 gb : Nat) (pd : PD) (d : Dk) (cf : Cf) (p : Ps) (e : Ps) (er : Int) (L : List (Nat × List Value)) (G : List Gs) (F : List (World → Prop)) (n : Nat) (hn : 4 ≤ n) (k0 N : Nat)
  (hd : DkIn pd d L) (hb1 : (b1, [.pointer (some ⟨C, 0, none⟩)]) ∈ L) (hg : (fun W => GeoAt W gb cf.b cf.s cf.l) ∈ F) (hc : cf.Ok) (hk : ChEnds d cf k0 p) (hN : (chainG d cf k0 p).1.length ≤ N) :
  SeqW Fence.wide n Tryz.prog 179 #[.pointer (some ⟨b1, 0, none⟩)] Fnd.enc (ChPre C pd.D gb d cf p k0 L G F) (ChFin C pd.D gb d cf p k0 L G F) (ChFix C pd.D gb d cf p k0 L G F) N w0 W ⟨(C, CB pd.D gb p e er) :: L, G, F⟩ := by
 intro l J c0 hJc hY hJ0 hA
 have HJC := Lib.hid hJc
 have HYY := Lib.hid hY
 clear hJc hY
 have h1 : 1 ≤ n := by omega
 have hA' : Wc w0 W ((C, CB pd.D gb p e er) :: (L ++ c0.L)) (G ++ c0.G) (F ++ c0.F) := hA
 have HB1 := Lib.hid hb1
 have HDK := Lib.hid hd
 have HG := Lib.hid hg
 have HC := Lib.hid hc
 have HKE := Lib.hid hk
 have HN := Lib.hid hN
 have HW1 := Lib.hid ((Wk.start hA').newB #[.func (.yield l) #[] #[]] 221 (b := W.heap.size) rfl)
 have hws := hA'.only.size
 clear hA hA' hd hg hb1 hk hN hc
 refine callsIn_of_wp_post Tryz.func179 rfl ?_
 simp only [Tryz.ntmps179, List.size_toArray, List.length_cons, List.length_nil, Nat.reduceAdd, Nat.reduceSub, Array.replicate_succ, Array.replicate_zero, List.push_toArray, List.append_toArray, List.nil_append, List.cons_append]
 have c1 : (W.alloc (.cells #[.func (.yield l) #[] #[]] 221)).cell? ⟨b1, 0, none⟩ = some (.pointer (some ⟨C, 0, none⟩)) := own1 (HW1.out.own _ (List.mem_cons_of_mem _ (List.mem_cons_of_mem _ (List.mem_append_left _ HB1.out))))
 gi_upto_region 2 with (fail)
 generalize hz1 : W.alloc (.cells #[.func (.yield l) #[] #[]] 221) = w1 at *
 obtain ⟨f2, hf2⟩ : ∃ k, k = W.heap.size := ⟨_, rfl⟩
 have hf2' : W.heap.size ≤ f2 := by omega
 rw [← hf2] at HW1 ⊢
 clear hz1 hf2 c1
 have HY := Lib.hid HW1.out.drew
 clear HW1
 refine wpIn_wide.2 (wp_region_held_drew (S := (fun w' => w'.cell? ⟨b1, 0, none⟩ = some (.pointer (some ⟨C, 0, none⟩)) ∧ w'.cell? ⟨C, 2, none⟩ = some (.int .i64 p.s) ∧ w'.cell? ⟨C, 3, none⟩ = some (.int .i64 p.o) ∧ w'.cell? ⟨C, 4, none⟩ = some (.int .i64 p.l) ∧ w'.cell? ⟨C, 5, none⟩ = some (.int .i64 p.p) ∧ w'.cell? ⟨C, 6, none⟩ = some (.int .i64 p.m))) (by kernel_rfl) ⟨own1 (HY.out.own _ (List.mem_cons_of_mem _ (List.mem_cons_of_mem _ (List.mem_append_left _ HB1.out)))), (HY.out.boxi 1 rfl).cellv 2, (HY.out.boxi 1 rfl).cellv 3, (HY.out.boxi 1 rfl).cellv 4, (HY.out.boxi 1 rfl).cellv 5, (HY.out.boxi 1 rfl).cellv 6⟩ (fun hSw0 => ?_))
 generalize w1.drew = wz at *
 refine Kn.takeS 0 ⟨some 9, _, _, _, _, _⟩ (hQ := fun _ _ _ h => h.elim) (v := (.pointer (some ⟨C, 0, none⟩))) (hy := fun w hSw => by
  obtain ⟨q0, q1, q2, q3, q4, q5⟩ := hSw
  go_simp) ?_
 refine Kn.takeS 1 ⟨some 10, _, _, _, _, _⟩ (hQ := fun _ _ _ h => h.elim) (v := (.pointer (some ⟨C, 0, none⟩))) (hy := fun w hSw => by
  obtain ⟨q0, q1, q2, q3, q4, q5⟩ := hSw
  go_simp) ?_
 refine Kn.takeS 2 ⟨some 11, _, _, _, _, _⟩ (hQ := fun _ _ _ h => h.elim) (v := (.pointer (some ⟨C, 0, none⟩))) (hy := fun w hSw => by
  obtain ⟨q0, q1, q2, q3, q4, q5⟩ := hSw
  go_simp) ?_
 refine Kn.takeS 3 ⟨some 12, _, _, _, _, _⟩ (hQ := fun _ _ _ h => h.elim) ?_
 refine Kn.takeS 4 ⟨some 13, _, _, _, _, _⟩ (hQ := fun _ _ _ h => h.elim) ?_
 refine Kn.takeS 5 ⟨some 14, _, _, _, _, _⟩ (hQ := fun _ _ _ h => h.elim) (v := (.agg #[.int .i64 p.s, .int .i64 p.o, .int .i64 p.l, .int .i64 p.p, .int .i64 p.m])) (hy := fun w hSw => by
  obtain ⟨q0, q1, q2, q3, q4, q5⟩ := hSw
  go_simp) ?_
 refine Kn.takeS 6 ⟨some 15, _, _, _, _, _⟩ (hQ := fun _ _ _ h => h.elim) ?_
 refine Kn.takeS 7 ⟨some 16, _, _, _, _, _⟩ (hQ := fun _ _ _ h => h.elim) ?_
 refine Kn.takeR 8 ⟨none, _, _, _, _, _⟩ fun K hK => ?_
 have bC := HY.out.boxi 1 rfl
 have c7 := bC.cellv 7
 have c8 := bC.cellv 8
 have c9 := bC.cellv 9
 have c10 := bC.cellv 10
 have c11 := bC.cellv 11
 have z7 := bC.frozen 7
 have z8 := bC.frozen 8
 have z9 := bC.frozen 9
 have z10 := bC.frozen 10
 have z11 := bC.frozen 11
 have lC := bC.lt
 go_simp
 have HY1 : Hid (Wk w0 W _ ((f2, [.func (.yield l) #[] #[]]) :: (C, CB pd.D gb p p er) :: (L ++ c0.L)) (G ++ c0.G) (F ++ c0.F)) := Lib.hid (((((HY.out.put 1 rfl 7 (.int .i64 p.s)).put 1 rfl 8 (.int .i64 p.o)).put 1 rfl 9 (.int .i64 p.l)).put 1 rfl 10 (.int .i64 p.p)).put 1 rfl 11 (.int .i64 p.m))
 clear c7 z7 c8 z8 c9 z9 c10 z10 c11 z11 bC lC HY
 obtain ⟨wy, hgn⟩ : ∃ x, x = (World.setCell (World.setCell (World.setCell (World.setCell (World.setCell wz ⟨C, 7, none⟩ (.int .i64 p.s)) ⟨C, 8, none⟩ (.int .i64 p.o)) ⟨C, 9, none⟩ (.int .i64 p.l)) ⟨C, 10, none⟩ (.int .i64 p.p)) ⟨C, 11, none⟩ (.int .i64 p.m)) := ⟨_, rfl⟩
 rw [← hgn] at HY1 ⊢
 clear hgn
 refine hK.out _ _ ⟨own1 (HY1.out.own _ (List.mem_cons_of_mem _ (List.mem_cons_of_mem _ (List.mem_append_left _ HB1.out)))), (HY1.out.boxi 1 rfl).cellv 2, (HY1.out.boxi 1 rfl).cellv 3, (HY1.out.boxi 1 rfl).cellv 4, (HY1.out.boxi 1 rfl).cellv 5, (HY1.out.boxi 1 rfl).cellv 6⟩ (fun hSn => ?_)
 clear hK K hSw0
 have hSw0 := hSn
 clear hSn
 refine Kn.takeS 9 ⟨some 17, _, _, _, _, _⟩ (hQ := fun _ _ _ h => h.elim) ?_
 refine Kn.takeS 10 ⟨some 18, _, _, _, _, _⟩ (hQ := fun _ _ _ h => h.elim) ?_
 refine Kn.takeR 11 ⟨none, _, _, _, _, _⟩ fun K hK => ?_
 have bC := HY1.out.boxi 1 rfl
 have c12 := bC.cellv 12
 have z12 := bC.frozen 12
 have lC := bC.lt
 go_simp
 have HY2 : Hid (Wk w0 W _ ((f2, [.func (.yield l) #[] #[]]) :: (C, CB pd.D gb p p 0) :: (L ++ c0.L)) (G ++ c0.G) (F ++ c0.F)) := Lib.hid (HY1.out.put 1 rfl 12 (.int .i64 0))
 clear c12 z12 bC lC HY1
 obtain ⟨wx, hgn⟩ : ∃ x, x = (World.setCell wy ⟨C, 12, none⟩ (.int .i64 0)) := ⟨_, rfl⟩
 rw [← hgn] at HY2 ⊢
 clear hgn
 refine hK.out _ _ ⟨own1 (HY2.out.own _ (List.mem_cons_of_mem _ (List.mem_cons_of_mem _ (List.mem_append_left _ HB1.out)))), (HY2.out.boxi 1 rfl).cellv 2, (HY2.out.boxi 1 rfl).cellv 3, (HY2.out.boxi 1 rfl).cellv 4, (HY2.out.boxi 1 rfl).cellv 5, (HY2.out.boxi 1 rfl).cellv 6⟩ (fun hSn => ?_)
 clear hK K hSw0
 have hSw0 := hSn
 clear hSn
 refine wpAnyH_done (by kernel_rfl) ?_ _
 clear hSw0
 have HY3 := Lib.hid (HY2.out.newB #[.bool true] 4 (b := wx.heap.size) rfl)
 gi_wp2_with fail
 generalize hz3 : wx.alloc (.cells #[.bool true] 4) = w3 at *
 generalize wx.heap.size = f3 at *
 clear hz3 HY2
 have HS0 : Hid (Wk w0 W w3 ((C, CB pd.D gb p p 0) :: (f3, [.bool true]) :: (f2, [.func (.yield l) #[] #[]]) :: (L ++ c0.L)) (G ++ c0.G) ([] ++ (F ++ c0.F))) := Lib.hid (HY3.out.perm (perm_any (fun c => by simp only [List.map_cons, List.map_append, List.sum_cons, List.sum_append, List.cons_append, List.map_nil, List.sum_nil] <;> omega)) (List.Perm.refl _))
 clear HY3
 have hJ3 : J none [] c0 w3 := HJC.out _ _ _ _ _ hJ0 HS0.out.kb
 refine wpIn_loop_ghost_k (fun (k : Nat) (a : Act) (wr : World) => ∃ (us : List Value) (f3 : Nat) (ds : List Deferred), us.length = 62 ∧ a = { tmps := (.func (.yield l) #[] #[] :: .pointer (some ⟨b1, 0, none⟩) :: .pointer (some ⟨f2, 0, none⟩) :: .pointer (some ⟨f3, 0, none⟩) :: us).toArray, defers := ds } ∧ (∃ (told : List Fnd) (c : Fr3) (fs : List (World → Prop)) (more : Bool) (q : Ps) (er : Int) (Ds : List Nat), ds = Ds.map mkD ∧ W.heap.size ≤ wr.heap.size ∧ Wc w0 wr ((C, CB pd.D gb p q er) :: (f3, [.bool more]) :: (f2, [.func (.yield l) #[] #[]]) :: (L ++ c.L)) (G ++ c.G) (fs ++ (F ++ c.F)) ∧ (∀ y ∈ told, y.fct ∈ fs) ∧ J none told c wr ∧ Marks W.heap.size Ds wr ∧
   ((more = true ∧ er = 0 ∧ ChEnds d cf k q ∧ chainG d cf k0 p = (told.map Fnd.pr ++ (chainG d cf k q).1, (chainG d cf k q).2)) ∨ (more = false ∧ chainG d cf k0 p = (told.map Fnd.pr, q, er))))) k0 ?start ?round
 case start =>
  refine ⟨_, f3, [], ?_, rfl, ⟨[], c0, [], true, p, 0, [], rfl, HS0.out.hs, HS0.out.toWc, by simp, hJ3, ⟨by simp, List.nodup_nil⟩, .inl ⟨rfl, rfl, HKE.out, by simp⟩⟩⟩
  rfl
 case round =>
  clear HS0 hJ3 hJ0
  rintro gk a wr ⟨us, f3, ds, hus, rfl, ⟨told, c, fs, more, q, er, Ds, rfl, hsz, hw, hfs, hJt, hmk, hst⟩⟩
  intro _ _ _ _
  revert us
  refine all62 ?_
  intro u4 u5 u6 u7 u8 u9 u10 u11 u12 u13 u14 u15 u16 u17 u18 u19 u20 u21 u22 u23 u24 u25 u26 u27 u28 u29 u30 u31 u32 u33 u34 u35 u36 u37 u38 u39 u40 u41 u42 u43 u44 u45 u46 u47 u48 u49 u50 u51 u52 u53 u54 u55 u56 u57 u58 u59 u60 u61 u62 u63 u64 u65
  rcases hst with ⟨rfl, rfl, hke, hsc⟩ | ⟨rfl, hsc⟩
  ·as_aux_lemma =>
    obtain ⟨k, rfl⟩ : ∃ k, gk = k + 1 := by
     cases gk with
     | zero => exact hke.elim
     | succ k => exact ⟨k, rfl⟩
    have HW := Lib.hid (Wk.start hw)
    have HKQ := Lib.hid hke
    have HSC := Lib.hid hsc
    have HFS := Lib.hid hfs
    have HMK := Lib.hid hmk
    have HJT := Lib.hid hJt
    clear hw hke hsc hfs hmk hJt
    have c3 := own1 (HW.out.boxi 1 rfl)
    gi_upto_region 5 with (fail)
    clear c3
    gi_cut [4] from 7 (fun s4 wy => ∃ f4 S : Nat, s4 = .pointer (some ⟨f4, 0, none⟩) ∧ Wk w0 wr wy ((f4, [.pointer (some ⟨S, 0, none⟩)]) :: (S, SB pd.D gb q false q 0) :: (C, CB pd.D gb p q 0) :: (f3, [.bool true]) :: (f2, [.func (.yield l) #[] #[]]) :: (L ++ c.L)) (G ++ c.G) (fs ++ (F ++ c.F)))
    case first =>
     as_aux_lemma =>
      have HY := Lib.hid HW.out.drew
      clear HW
      refine wpIn_wide.2 (wp_region_held_drew (S := (fun w' => w'.cell? ⟨b1, 0, none⟩ = some (.pointer (some ⟨C, 0, none⟩)) ∧ w'.cell? ⟨C, 0, none⟩ = some (.pointer (some ⟨pd.D, 0, none⟩)) ∧ w'.cell? ⟨C, 1, none⟩ = some (.pointer (some ⟨gb, 0, none⟩)) ∧ w'.cell? ⟨C, 7, none⟩ = some (.int .i64 q.s) ∧ w'.cell? ⟨C, 8, none⟩ = some (.int .i64 q.o) ∧ w'.cell? ⟨C, 9, none⟩ = some (.int .i64 q.l) ∧ w'.cell? ⟨C, 10, none⟩ = some (.int .i64 q.p) ∧ w'.cell? ⟨C, 11, none⟩ = some (.int .i64 q.m))) (by kernel_rfl) ⟨own1 (HY.out.own _ (List.mem_cons_of_mem _ (List.mem_cons_of_mem _ (List.mem_cons_of_mem _ (List.mem_append_left _ HB1.out))))), (HY.out.boxi 0 rfl).cellv 0, (HY.out.boxi 0 rfl).cellv 1, (HY.out.boxi 0 rfl).cellv 7, (HY.out.boxi 0 rfl).cellv 8, (HY.out.boxi 0 rfl).cellv 9, (HY.out.boxi 0 rfl).cellv 10, (HY.out.boxi 0 rfl).cellv 11⟩ (fun hSw0 => ?_))
      generalize wr.drew = wz at *
      refine Kn.takeS 0 ⟨some 20, _, _, _, _, _⟩ (hQ := fun _ _ _ h => h.elim) (v := (.pointer (some ⟨C, 0, none⟩))) (hy := fun w hSw => by
       obtain ⟨q0, q1, q2, q3, q4, q5, q6, q7⟩ := hSw
       go_simp) ?_
      refine Kn.takeS 1 ⟨some 21, _, _, _, _, _⟩ (hQ := fun _ _ _ h => h.elim) ?_
      refine Kn.takeS 2 ⟨some 22, _, _, _, _, _⟩ (hQ := fun _ _ _ h => h.elim) ?_
      refine Kn.takeS 3 ⟨some 23, _, _, _, _, _⟩ (hQ := fun _ _ _ h => h.elim) (v := (.pointer (some ⟨pd.D, 0, none⟩))) (hy := fun w hSw => by
       obtain ⟨q0, q1, q2, q3, q4, q5, q6, q7⟩ := hSw
       go_simp) ?_
      refine Kn.takeS 4 ⟨some 24, _, _, _, _, _⟩ (hQ := fun _ _ _ h => h.elim) (v := (.pointer (some ⟨C, 0, none⟩))) (hy := fun w hSw => by
       obtain ⟨q0, q1, q2, q3, q4, q5, q6, q7⟩ := hSw
       go_simp) ?_
      refine Kn.takeS 5 ⟨some 25, _, _, _, _, _⟩ (hQ := fun _ _ _ h => h.elim) ?_
      refine Kn.takeS 6 ⟨some 26, _, _, _, _, _⟩ (hQ := fun _ _ _ h => h.elim) ?_
      refine Kn.takeS 7 ⟨some 27, _, _, _, _, _⟩ (hQ := fun _ _ _ h => h.elim) (v := (.pointer (some ⟨gb, 0, none⟩))) (hy := fun w hSw => by
       obtain ⟨q0, q1, q2, q3, q4, q5, q6, q7⟩ := hSw
       go_simp) ?_
      refine Kn.takeS 8 ⟨some 28, _, _, _, _, _⟩ (hQ := fun _ _ _ h => h.elim) (v := (.pointer (some ⟨C, 0, none⟩))) (hy := fun w hSw => by
       obtain ⟨q0, q1, q2, q3, q4, q5, q6, q7⟩ := hSw
       go_simp) ?_
      refine Kn.takeS 9 ⟨some 29, _, _, _, _, _⟩ (hQ := fun _ _ _ h => h.elim) ?_
      refine Kn.takeS 10 ⟨some 30, _, _, _, _, _⟩ (hQ := fun _ _ _ h => h.elim) ?_
      refine Kn.takeS 11 ⟨some 31, _, _, _, _, _⟩ (hQ := fun _ _ _ h => h.elim) (v := (.agg #[.int .i64 q.s, .int .i64 q.o, .int .i64 q.l, .int .i64 q.p, .int .i64 q.m])) (hy := fun w hSw => by
       obtain ⟨q0, q1, q2, q3, q4, q5, q6, q7⟩ := hSw
       go_simp) ?_
      refine wpAnyH_ready (rs := [12, 13]) (by kernel_rfl) (by simp) ?_
      refine AllReadyH.cons (o := ⟨some 32, _, _, _, _, _⟩) rfl (fun K hK => ?_) ?_
      ·go_simp
       refine (scan_new_any w0 _ pd.D gb q _ _ _ HY.out).mono ?_
       rintro en wv ⟨S, rfl, hw9⟩
       have HYc := Lib.hid hw9
       clear hw9 HY
       refine hK.out _ _ ⟨own1 (HYc.out.own _ (List.mem_cons_of_mem _ (List.mem_cons_of_mem _ (List.mem_cons_of_mem _ (List.mem_cons_of_mem _ (List.mem_append_left _ HB1.out)))))), (HYc.out.boxi 1 rfl).cellv 0, (HYc.out.boxi 1 rfl).cellv 1, (HYc.out.boxi 1 rfl).cellv 7, (HYc.out.boxi 1 rfl).cellv 8, (HYc.out.boxi 1 rfl).cellv 9, (HYc.out.boxi 1 rfl).cellv 10, (HYc.out.boxi 1 rfl).cellv 11⟩ (fun hSn => ?_)
       clear hK K hSw0
       have hSw0 := hSn
       clear hSn
       refine Kn.takeR 13 ⟨some 4, _, _, _, _, _⟩ fun K hK => ?_
       go_simp
       have HYca := Lib.hid (HYc.out.newB #[.pointer none] 40 (b := wv.heap.size) rfl)
       clear HYc
       generalize hvb : wv.alloc (.cells #[.pointer none] 40) = wa at *
       generalize wv.heap.size = f4 at *
       clear hvb
       refine hK.out _ _ ⟨own1 (HYca.out.own _ (List.mem_cons_of_mem _ (List.mem_cons_of_mem _ (List.mem_cons_of_mem _ (List.mem_cons_of_mem _ (List.mem_cons_of_mem _ (List.mem_append_left _ HB1.out))))))), (HYca.out.boxi 2 rfl).cellv 0, (HYca.out.boxi 2 rfl).cellv 1, (HYca.out.boxi 2 rfl).cellv 7, (HYca.out.boxi 2 rfl).cellv 8, (HYca.out.boxi 2 rfl).cellv 9, (HYca.out.boxi 2 rfl).cellv 10, (HYca.out.boxi 2 rfl).cellv 11⟩ (fun hSn => ?_)
       clear hK K hSw0
       have hSw0 := hSn
       clear hSn
       refine Kn.takeR 14 ⟨none, _, _, _, _, _⟩ fun K hK => ?_
       have b4 := HYca.out.boxi 0 rfl
       have c4 := own1 b4
       have z4 := b4.frozen 0
       have l4 := b4.lt
       go_simp
       have HYcas := Lib.hid (HYca.out.put 0 rfl 0 (.pointer (some ⟨S, 0, none⟩)))
       simp only [List.set_cons_zero, List.set_cons_succ] at HYcas
       clear b4 c4 z4 l4 HYca
       generalize World.setCell wa ⟨f4, 0, none⟩ (.pointer (some ⟨S, 0, none⟩)) = ws at *
       refine hK.out _ _ ⟨own1 (HYcas.out.own _ (List.mem_cons_of_mem _ (List.mem_cons_of_mem _ (List.mem_cons_of_mem _ (List.mem_cons_of_mem _ (List.mem_cons_of_mem _ (List.mem_append_left _ HB1.out))))))), (HYcas.out.boxi 2 rfl).cellv 0, (HYcas.out.boxi 2 rfl).cellv 1, (HYcas.out.boxi 2 rfl).cellv 7, (HYcas.out.boxi 2 rfl).cellv 8, (HYcas.out.boxi 2 rfl).cellv 9, (HYcas.out.boxi 2 rfl).cellv 10, (HYcas.out.boxi 2 rfl).cellv 11⟩ (fun hSn => ?_)
       clear hK K hSw0
       have hSw0 := hSn
       clear hSn
       refine wpAnyH_done (by kernel_rfl) ?_ _
       clear hSw0
       gi_wp2
       gi_meet
       case rel => exact ⟨f4, S, rfl, HYcas.out.perm (perm_any (fun c => by simp only [List.map_cons, List.map_append, List.sum_cons, List.sum_append, List.cons_append, List.map_nil, List.sum_nil] <;> omega)) (List.Perm.refl _)⟩
      refine AllReadyH.cons (o := ⟨some 4, _, _, _, _, _⟩) rfl (fun K hK => ?_) ?_
      ·go_simp
       have HYa := Lib.hid (HY.out.newB #[.pointer none] 40 (b := wz.heap.size) rfl)
       clear HY
       generalize hvb : wz.alloc (.cells #[.pointer none] 40) = wa at *
       generalize wz.heap.size = f4 at *
       clear hvb
       refine hK.out _ _ ⟨own1 (HYa.out.own _ (List.mem_cons_of_mem _ (List.mem_cons_of_mem _ (List.mem_cons_of_mem _ (List.mem_cons_of_mem _ (List.mem_append_left _ HB1.out)))))), (HYa.out.boxi 1 rfl).cellv 0, (HYa.out.boxi 1 rfl).cellv 1, (HYa.out.boxi 1 rfl).cellv 7, (HYa.out.boxi 1 rfl).cellv 8, (HYa.out.boxi 1 rfl).cellv 9, (HYa.out.boxi 1 rfl).cellv 10, (HYa.out.boxi 1 rfl).cellv 11⟩ (fun hSn => ?_)
       clear hK K hSw0
       have hSw0 := hSn
       clear hSn
       refine Kn.takeR 12 ⟨some 32, _, _, _, _, _⟩ fun K hK => ?_
       go_simp
       refine (scan_new_any w0 _ pd.D gb q _ _ _ HYa.out).mono ?_
       rintro en wv ⟨S, rfl, hw9⟩
       have HYac := Lib.hid hw9
       clear hw9 HYa
       refine hK.out _ _ ⟨own1 (HYac.out.own _ (List.mem_cons_of_mem _ (List.mem_cons_of_mem _ (List.mem_cons_of_mem _ (List.mem_cons_of_mem _ (List.mem_cons_of_mem _ (List.mem_append_left _ HB1.out))))))), (HYac.out.boxi 2 rfl).cellv 0, (HYac.out.boxi 2 rfl).cellv 1, (HYac.out.boxi 2 rfl).cellv 7, (HYac.out.boxi 2 rfl).cellv 8, (HYac.out.boxi 2 rfl).cellv 9, (HYac.out.boxi 2 rfl).cellv 10, (HYac.out.boxi 2 rfl).cellv 11⟩ (fun hSn => ?_)
       clear hK K hSw0
       have hSw0 := hSn
       clear hSn
       refine Kn.takeR 14 ⟨none, _, _, _, _, _⟩ fun K hK => ?_
       have b4 := HYac.out.boxi 1 rfl
       have c4 := own1 b4
       have z4 := b4.frozen 0
       have l4 := b4.lt
       go_simp
       have HYacs := Lib.hid (HYac.out.put 1 rfl 0 (.pointer (some ⟨S, 0, none⟩)))
       simp only [List.set_cons_zero, List.set_cons_succ] at HYacs
       clear b4 c4 z4 l4 HYac
       generalize World.setCell wv ⟨f4, 0, none⟩ (.pointer (some ⟨S, 0, none⟩)) = ws at *
       refine hK.out _ _ ⟨own1 (HYacs.out.own _ (List.mem_cons_of_mem _ (List.mem_cons_of_mem _ (List.mem_cons_of_mem _ (List.mem_cons_of_mem _ (List.mem_cons_of_mem _ (List.mem_append_left _ HB1.out))))))), (HYacs.out.boxi 2 rfl).cellv 0, (HYacs.out.boxi 2 rfl).cellv 1, (HYacs.out.boxi 2 rfl).cellv 7, (HYacs.out.boxi 2 rfl).cellv 8, (HYacs.out.boxi 2 rfl).cellv 9, (HYacs.out.boxi 2 rfl).cellv 10, (HYacs.out.boxi 2 rfl).cellv 11⟩ (fun hSn => ?_)
       clear hK K hSw0
       have hSw0 := hSn
       clear hSn
       refine wpAnyH_done (by kernel_rfl) ?_ _
       clear hSw0
       gi_wp2
       gi_meet
       case rel => exact ⟨f4, S, rfl, HYacs.out.perm (perm_any (fun c => by simp only [List.map_cons, List.map_append, List.sum_cons, List.sum_append, List.cons_append, List.map_nil, List.sum_nil] <;> omega)) (List.Perm.refl _)⟩
      exact AllReadyH.nil
    case rest =>
     clear HW
     obtain ⟨f4, S, rfl, hw4⟩ := hcut
     have HW4 := Lib.hid hw4
     clear hw4
     have b3 := HW4.out.boxi 3 rfl
     have c3 := own1 b3
     have z3 := b3.frozen 0
     have l3 := b3.lt
     clear b3
     gi_upto_region 7 with (fail)
     have HW5 : Hid (Wk w0 wr _ ((f4, [.pointer (some ⟨S, 0, none⟩)]) :: (S, SB pd.D gb q false q 0) :: (C, CB pd.D gb p q 0) :: (f3, [.bool false]) :: (f2, [.func (.yield l) #[] #[]]) :: (L ++ c.L)) (G ++ c.G) (fs ++ (F ++ c.F))) := Lib.hid (HW4.out.put 3 rfl 0 (.bool false))
     generalize World.setCell wc ⟨f3, 0, none⟩ (.bool false) = w5 at *
     clear c3 z3 l3 HW4
     have c4 := own1 (HW5.out.boxi 0 rfl)
     gi_wp2_with fail
     refine ⟨trivial, callsIn_wide.2 ((places_any _ _).mono ?_)⟩
     rintro en w6 ⟨rfl, rfl⟩
     have HW6 := Lib.hid (HW5.out.newB #[.pointer (some ⟨S, 0, none⟩)] 40 (b := w5.heap.size) rfl)
     clear HW5 c4
     generalize hz6 : w5.alloc (.cells #[.pointer (some ⟨S, 0, none⟩)] 40) = w6 at *
     generalize w5.heap.size = f7 at *
     clear hz6
     have hsz6 : W.heap.size ≤ w6.heap.size := Nat.le_trans hsz HW6.out.hs
     have hmk6 : Marks W.heap.size Ds w6 := HMK.out.kb HW6.out.kb HMK.out.lt
     have hJ6 : J none told c w6 := HJC.out _ _ _ _ _ HJT.out (HW6.out.kb.mono hsz)
     have hdl : ∀ E ∈ Ds, E < w6.heap.size := hmk6.lt
     have HMK6 := Lib.hid hmk6
     have HJ6 := Lib.hid hJ6
     have HDL := Lib.hid hdl
     clear hmk6 hJ6 hdl HMK HJT
     gi_wp2_with fail
     have H0 : At3 w0 w6 ⟨(S, SB pd.D gb q false q 0) :: ((f7, [.pointer (some ⟨S, 0, none⟩)]) :: L), G, fs ++ F⟩ (ChC C pd.D gb p q f2 f3 f4 S l false c) := at3_mk (HW6.out.toWc.perm (L' := ((S, SB pd.D gb q false q 0) :: ((f7, [.pointer (some ⟨S, 0, none⟩)]) :: L)) ++ ((f4, [.pointer (some ⟨S, 0, none⟩)]) :: (C, CB pd.D gb p q 0) :: (f3, [.bool false]) :: (f2, [.func (.yield l) #[] #[]]) :: c.L)) (perm_any (fun c => by simp only [List.map_cons, List.map_append, List.sum_cons, List.sum_append, List.cons_append, List.map_nil, List.sum_nil] <;> omega)) (List.Perm.refl _))
     have H00 := Lib.hid H0
     clear H0 HW6
     refine wpIn_rangeFunc_W rfl h1 (gf := 151) (lb := #[.pointer (some ⟨f7, 0, none⟩)]) rfl trivial (enters_of Tryz.func151 (by kernel_rfl) rfl) (c0 := (ChC C pd.D gb p q f2 f3 f4 S l false c))
      (fun W1 _ => places1_seq w0 W1 S f7 gb pd d cf q false q 0 ((f7, [.pointer (some ⟨S, 0, none⟩)]) :: L) G (fs ++ F) (n - 1) (by omega) (HDK.out.mono (fun x hx => List.mem_cons_of_mem _ hx)) List.mem_cons_self (List.mem_append_right _ HG.out) HC.out) (fun _ => rfl)
      (ChJ J C pd.D gb d cf p f2 f3 f4 S l told W.heap.size Ds)
      (fun pre x a cc V => ∃ (co : Fr3) (e : Ps) (more : Bool) (bP bR : Nat), cc = ⟨(bR, (x.r.cells x.s x.t).toList) :: (bP, [.int .i64 x.p.s, .int .i64 x.p.o, .int .i64 x.p.l, .int .i64 x.p.p, .int .i64 x.p.m]) :: (ChC C pd.D gb p e f2 f3 f4 S l more co).L, co.G, co.F⟩ ∧ a = { tmps := #[.func (.yield l) #[] #[], .pointer (some ⟨b1, 0, none⟩), .pointer (some ⟨f2, 0, none⟩), .pointer (some ⟨f3, 0, none⟩), .pointer (some ⟨f4, 0, none⟩), .pointer (some ⟨bP, 0, none⟩), .pointer (some ⟨bR, 0, none⟩), u7, u8, u9, u10, u11, u12, u13, u14, u15, u16, u17, u18, u19, u20, u21, u22, u23, u24, u25, u26, u27, u28, u29, u30, u31, u32, .pointer (some ⟨S, 0, none⟩), .func (.func 151) #[] #[.pointer (some ⟨f7, 0, none⟩)], .agg #[.int .i64 x.p.s, .int .i64 x.p.o, .int .i64 x.p.l, .int .i64 x.p.p, .int .i64 x.p.m], .agg (x.r.cells x.s x.t), u37, u38, u39, u40, u41, u42, u43, u44, u45, u46, u47, u48, u49, u50, u51, u52, u53, u54, u55, u56, u57, u58, u59, u60, u61, u62, u63, u64, u65], defers := [] } ∧ J none (told ++ pre) co V ∧ Marks W.heap.size Ds V ∧ OnSt d cf pre e more)
      ?hJ ?hJm ⟨c, q, false, rfl, by rw [List.append_nil]; exact HJ6.out, HMK6.out, .inl ⟨rfl, rfl⟩⟩ H00.out ?assign ?body ?done ?stop
     case hJ =>
      clear H00 HJ6 HMK6
      rintro (_ | cd) xs cc X Y h hb
      ·obtain ⟨co, e, more, hcc, hj, hm, ho⟩ := h
       exact ⟨co, e, more, hcc, HJC.out _ _ _ _ _ hj (hb.mono hsz6), hm.kb hb HDL.out, ho⟩
      ·obtain ⟨co, e, more, cd2, hcc, hcd, hj, hm, ho⟩ := h
       exact ⟨co, e, more, cd2, hcc, hcd, HJC.out _ _ _ _ _ hj (hb.mono hsz6), hm.kb hb HDL.out, ho⟩
     case hJm =>
      clear H00 HJ6 HMK6
      rintro pre x a cc X Y ⟨co, e, more, bP, bR, hcc, ha, hj, hm, ho⟩ hb
      exact ⟨co, e, more, bP, bR, hcc, ha, HJC.out _ _ _ _ _ hj (hb.mono hsz6), hm.kb hb HDL.out, ho⟩
     case assign =>
      as_aux_lemma =>
       clear H00 HJ6 HMK6
       rintro lr pre x φ cc W1 K hpre ⟨co, e, more, rfl, hj, hm, ho⟩ hat hsz1 hlen hK
       have HAT := Lib.hid hat
       have HPRE := Lib.hid hpre
       clear hat hpre
       simp only [Fnd.enc, Rc.cells, slv]
       gi_wp2
       refine hK _ ⟨(W1.heap.size + 1, (x.r.cells x.s x.t).toList) :: (W1.heap.size, [.int .i64 x.p.s, .int .i64 x.p.o, .int .i64 x.p.l, .int .i64 x.p.p, .int .i64 x.p.m]) :: (ChC C pd.D gb p e f2 f3 f4 S l more co).L, co.G, co.F⟩ _ (kf_of_only (S := []) (((Only.refl _ _).alloc _).alloc _) (by simp)) (HAT.out.new2 _ _ _ _) ⟨co, e, more, _, _, rfl, rfl, HJC.out _ _ _ _ _ hj (Kb.of_only (S := []) (((Only.refl _ _).alloc _).alloc _) (by simp)), hm.kb (C := W1.heap.size) (Kb.of_only (S := []) (((Only.refl _ _).alloc _).alloc _) (by simp)) hm.lt, ho⟩
     case body =>
      as_aux_lemma =>
       rintro lr pre x φ cc a' W1 ⟨b3, qx, fs', rfl, hfs', hpx, hfo⟩ ⟨co, e, more, bP, bR, rfl, rfl, hj, hm, ho⟩ hat hsz1 hlen
       have hat1 : Wc w0 W1 (((S, SB pd.D gb q false qx 0) :: (b3, [.int .i64 x.p.s, .int .i64 x.p.o, .int .i64 x.p.l, .int .i64 x.p.p, .int .i64 x.p.m]) :: (f7, [.pointer (some ⟨S, 0, none⟩)]) :: L) ++ ((bR, [.int .i64 x.r.m, .int .i64 x.r.n, .int .i64 x.r.p, .slice x.s.1 x.s.2.1 x.s.2.2, .slice x.t.1 x.t.2.1 x.t.2.2]) :: (bP, [.int .i64 x.p.s, .int .i64 x.p.o, .int .i64 x.p.l, .int .i64 x.p.p, .int .i64 x.p.m]) :: (f4, [.pointer (some ⟨S, 0, none⟩)]) :: (C, CB pd.D gb p e 0) :: (f3, [.bool more]) :: (f2, [.func (.yield l) #[] #[]]) :: co.L)) (G ++ co.G) ((fs' ++ (fs ++ F)) ++ co.F) := hat
       have HF := Lib.hid ((Wk.start hat1).perm (L' := (S, SB pd.D gb q false qx 0) :: (C, CB pd.D gb p e 0) :: (f3, [.bool more]) :: (f4, [.pointer (some ⟨S, 0, none⟩)]) :: (bR, [.int .i64 x.r.m, .int .i64 x.r.n, .int .i64 x.r.p, .slice x.s.1 x.s.2.1 x.s.2.2, .slice x.t.1 x.t.2.1 x.t.2.2]) :: (bP, [.int .i64 x.p.s, .int .i64 x.p.o, .int .i64 x.p.l, .int .i64 x.p.p, .int .i64 x.p.m]) :: (f2, [.func (.yield l) #[] #[]]) :: (b3, [.int .i64 x.p.s, .int .i64 x.p.o, .int .i64 x.p.l, .int .i64 x.p.p, .int .i64 x.p.m]) :: (f7, [.pointer (some ⟨S, 0, none⟩)]) :: (L ++ co.L)) (perm_any (fun c => by simp only [List.map_cons, List.map_append, List.sum_cons, List.sum_append, List.cons_append, List.map_nil, List.sum_nil] <;> omega)) (List.Perm.refl _))
       obtain ⟨e2, m2, hon⟩ : ∃ a b, onP cf x.r qx = (a, b) := ⟨_, _, rfl⟩
       have HON := Lib.hid hon
       have HFS2 := Lib.hid hfs'
       have HPX := Lib.hid hpx
       have HFO := Lib.hid hfo
       have HJ := Lib.hid hj
       have HM := Lib.hid hm
       clear hat hat1 hon hfs' hpx hfo hj hm ho H00 HJ6 HMK6
       have HXF : Hid (x.fct ∈ (fs' ++ (fs ++ F)) ++ co.F) := Lib.hid (List.mem_append_left _ (List.mem_append_left _ (HFS2.out x (by simp))))
       simp only [Rc.cells, slv]
       refine wpIn_block ?_
       gi_upto_region 10 with (fail)
       have HY := Lib.hid HF.out.drew
       clear HF
       refine wpIn_region_held_drew (S := (fun w' => w'.cell? ⟨b1, 0, none⟩ = some (.pointer (some ⟨C, 0, none⟩)) ∧ w'.cell? ⟨f4, 0, none⟩ = some (.pointer (some ⟨S, 0, none⟩)) ∧ Kn.Own w' bR [.int .i64 x.r.m, .int .i64 x.r.n, .int .i64 x.r.p, .slice x.s.1 x.s.2.1 x.s.2.2, .slice x.t.1 x.t.2.1 x.t.2.2])) (not_letsOut_then not_letsOut_postW) (plainOps_spec (by kernel_rfl)) (by kernel_rfl) ⟨own1 (HY.out.own _ (List.mem_cons_of_mem _ (List.mem_cons_of_mem _ (List.mem_cons_of_mem _ (List.mem_cons_of_mem _ (List.mem_cons_of_mem _ (List.mem_cons_of_mem _ (List.mem_cons_of_mem _ (List.mem_cons_of_mem _ (List.mem_cons_of_mem _ (List.mem_append_left _ HB1.out))))))))))), own1 (HY.out.boxi 3 rfl), HY.out.boxi 4 rfl⟩ (fun hSw0 => ?_)
       generalize W1.drew = wz at *
       refine Kn.takeS 0 ⟨some 38, _, _, _, _, _⟩ (hQ := fun _ _ _ h => h.elim) (v := (.pointer (some ⟨C, 0, none⟩))) (hy := fun w hSw => by
        have q0 := hSw.1
        go_simp) ?_
       refine Kn.takeS 1 ⟨some 39, _, _, _, _, _⟩ (hQ := fun _ _ _ h => h.elim) (v := (.pointer (some ⟨C, 0, none⟩))) (hy := fun w hSw => by
        have q0 := hSw.1
        go_simp) ?_
       refine Kn.takeS 2 ⟨some 40, _, _, _, _, _⟩ (hQ := fun _ _ _ h => h.elim) (v := (.agg #[.int .i64 x.r.m, .int .i64 x.r.n, .int .i64 x.r.p, .slice x.s.1 x.s.2.1 x.s.2.2, .slice x.t.1 x.t.2.1 x.t.2.2])) (hy := fun w hSw => by
        obtain ⟨q0, q1, q2, q3, q4⟩ := own5 hSw.2.2
        go_simp) ?_
       refine Kn.takeS 3 ⟨some 41, _, _, _, _, _⟩ (hQ := fun _ _ _ h => h.elim) (v := (.pointer (some ⟨S, 0, none⟩))) (hy := fun w hSw => by
        have q0 := hSw.2.1
        go_simp) ?_
       refine Kn.takeR 4 ⟨some 42, _, _, _, _, _⟩ fun K hK => ?_
       go_simp
       refine (scan_end_any w0 _ S gb pd.D q false qx 0 _ _ _ HY.out).mono ?_
       rintro en v1 ⟨rfl, hO⟩
       have HE1 := Lib.hid (HY.out.keep0 hO)
       clear hO HY
       refine hK.out _ _ ⟨own1 (HE1.out.own _ (List.mem_cons_of_mem _ (List.mem_cons_of_mem _ (List.mem_cons_of_mem _ (List.mem_cons_of_mem _ (List.mem_cons_of_mem _ (List.mem_cons_of_mem _ (List.mem_cons_of_mem _ (List.mem_cons_of_mem _ (List.mem_cons_of_mem _ (List.mem_append_left _ HB1.out))))))))))), own1 (HE1.out.boxi 3 rfl), HE1.out.boxi 4 rfl⟩ (fun hSn => ?_)
       clear hK K hSw0
       have hSw0 := hSn
       clear hSn
       refine Kn.takeR 5 ⟨some 43, _, _, _, _, _⟩ fun K hK => ?_
       go_simp
       refine (chain_on_any w0 _ C pd.D gb cf p e 0 x.r x.s x.t qx _ _ _ HE1.out.toWc (by simp) HXF.out (List.mem_append_left _ (List.mem_append_right _ (List.mem_append_right _ HG.out))) HC.out (fun v hv => follow_next HFO.out hv)).mono ?_
       rintro en v2 ⟨rfl, hO⟩
       rw [HON.out]
       dsimp only
       have HE2 := Lib.hid (HE1.out.keep0 hO)
       clear hO HE1
       refine hK.out _ _ ⟨own1 (HE2.out.own _ (List.mem_cons_of_mem _ (List.mem_cons_of_mem _ (List.mem_cons_of_mem _ (List.mem_cons_of_mem _ (List.mem_cons_of_mem _ (List.mem_cons_of_mem _ (List.mem_cons_of_mem _ (List.mem_cons_of_mem _ (List.mem_cons_of_mem _ (List.mem_append_left _ HB1.out))))))))))), own1 (HE2.out.boxi 3 rfl), HE2.out.boxi 4 rfl⟩ (fun hSn => ?_)
       clear hK K hSw0
       have hSw0 := hSn
       clear hSn
       refine Kn.takeS 6 ⟨some 37, _, _, _, _, _⟩ (hQ := fun _ _ _ h => h.elim) ?_
       refine Kn.takeS 7 ⟨some 44, _, _, _, _, _⟩ (hQ := fun _ _ _ h => h.elim) ?_
       refine Kn.takeS 8 ⟨some 45, _, _, _, _, _⟩ (hQ := fun _ _ _ h => h.elim) ?_
       refine Kn.takeS 9 ⟨some 46, _, _, _, _, _⟩ (hQ := fun _ _ _ h => h.elim) ?_
       refine Kn.takeS 10 ⟨some 47, _, _, _, _, _⟩ (hQ := fun _ _ _ h => h.elim) ?_
       refine Kn.takeR 11 ⟨none, _, _, _, _, _⟩ fun K hK => ?_
       have bC := HE2.out.boxi 1 rfl
       have c7 := bC.cellv 7
       have c8 := bC.cellv 8
       have c9 := bC.cellv 9
       have c10 := bC.cellv 10
       have c11 := bC.cellv 11
       have z7 := bC.frozen 7
       have z8 := bC.frozen 8
       have z9 := bC.frozen 9
       have z10 := bC.frozen 10
       have z11 := bC.frozen 11
       have lC := bC.lt
       go_simp
       have HE2s : Hid (Wk w0 W1 _ ((S, SB pd.D gb q false qx 0) :: (C, CB pd.D gb p e2 0) :: (f3, [.bool more]) :: (f4, [.pointer (some ⟨S, 0, none⟩)]) :: (bR, [.int .i64 x.r.m, .int .i64 x.r.n, .int .i64 x.r.p, .slice x.s.1 x.s.2.1 x.s.2.2, .slice x.t.1 x.t.2.1 x.t.2.2]) :: (bP, [.int .i64 x.p.s, .int .i64 x.p.o, .int .i64 x.p.l, .int .i64 x.p.p, .int .i64 x.p.m]) :: (f2, [.func (.yield l) #[] #[]]) :: (b3, [.int .i64 x.p.s, .int .i64 x.p.o, .int .i64 x.p.l, .int .i64 x.p.p, .int .i64 x.p.m]) :: (f7, [.pointer (some ⟨S, 0, none⟩)]) :: (L ++ co.L)) (G ++ co.G) ((fs' ++ (fs ++ F)) ++ co.F)) := Lib.hid (((((HE2.out.put 1 rfl 7 (.int .i64 e2.s)).put 1 rfl 8 (.int .i64 e2.o)).put 1 rfl 9 (.int .i64 e2.l)).put 1 rfl 10 (.int .i64 e2.p)).put 1 rfl 11 (.int .i64 e2.m))
       clear c7 z7 c8 z8 c9 z9 c10 z10 c11 z11 bC lC HE2
       obtain ⟨wy, hgn⟩ : ∃ x, x = (World.setCell (World.setCell (World.setCell (World.setCell (World.setCell v2 ⟨C, 7, none⟩ (.int .i64 e2.s)) ⟨C, 8, none⟩ (.int .i64 e2.o)) ⟨C, 9, none⟩ (.int .i64 e2.l)) ⟨C, 10, none⟩ (.int .i64 e2.p)) ⟨C, 11, none⟩ (.int .i64 e2.m)) := ⟨_, rfl⟩
       rw [← hgn] at HE2s ⊢
       clear hgn
       refine hK.out _ _ ⟨own1 (HE2s.out.own _ (List.mem_cons_of_mem _ (List.mem_cons_of_mem _ (List.mem_cons_of_mem _ (List.mem_cons_of_mem _ (List.mem_cons_of_mem _ (List.mem_cons_of_mem _ (List.mem_cons_of_mem _ (List.mem_cons_of_mem _ (List.mem_cons_of_mem _ (List.mem_append_left _ HB1.out))))))))))), own1 (HE2s.out.boxi 3 rfl), HE2s.out.boxi 4 rfl⟩ (fun hSn => ?_)
       clear hK K hSw0
       have hSw0 := hSn
       clear hSn
       refine Kn.takeR 12 ⟨none, _, _, _, _, _⟩ fun K hK => ?_
       have b3o := HE2s.out.boxi 2 rfl
       have c3 := own1 b3o
       have z3 := b3o.frozen 0
       have l3 := b3o.lt
       go_simp
       have HE2st : Hid (Wk w0 W1 _ ((S, SB pd.D gb q false qx 0) :: (C, CB pd.D gb p e2 0) :: (f3, [.bool m2]) :: (f4, [.pointer (some ⟨S, 0, none⟩)]) :: (bR, [.int .i64 x.r.m, .int .i64 x.r.n, .int .i64 x.r.p, .slice x.s.1 x.s.2.1 x.s.2.2, .slice x.t.1 x.t.2.1 x.t.2.2]) :: (bP, [.int .i64 x.p.s, .int .i64 x.p.o, .int .i64 x.p.l, .int .i64 x.p.p, .int .i64 x.p.m]) :: (f2, [.func (.yield l) #[] #[]]) :: (b3, [.int .i64 x.p.s, .int .i64 x.p.o, .int .i64 x.p.l, .int .i64 x.p.p, .int .i64 x.p.m]) :: (f7, [.pointer (some ⟨S, 0, none⟩)]) :: (L ++ co.L)) (G ++ co.G) ((fs' ++ (fs ++ F)) ++ co.F)) := Lib.hid (HE2s.out.put 2 rfl 0 (.bool m2))
       clear b3o c3 z3 l3 HE2s
       generalize World.setCell wy ⟨f3, 0, none⟩ (.bool m2) = wx2 at *
       refine hK.out _ _ ⟨own1 (HE2st.out.own _ (List.mem_cons_of_mem _ (List.mem_cons_of_mem _ (List.mem_cons_of_mem _ (List.mem_cons_of_mem _ (List.mem_cons_of_mem _ (List.mem_cons_of_mem _ (List.mem_cons_of_mem _ (List.mem_cons_of_mem _ (List.mem_cons_of_mem _ (List.mem_append_left _ HB1.out))))))))))), own1 (HE2st.out.boxi 3 rfl), HE2st.out.boxi 4 rfl⟩ (fun hSn => ?_)
       clear hK K hSw0
       have hSw0 := hSn
       clear hSn
       refine wpAnyH_done (by kernel_rfl) ?_ _
       clear hSw0
       generalize hgw : wx2 = w2 at *
       clear hgw
       have hA2 : At3 w0 w2 (⟨(C, CB pd.D gb p e2 0) :: (([(S, SB pd.D gb q false qx 0), (f3, [.bool m2]), (f4, [.pointer (some ⟨S, 0, none⟩)]), (bR, [.int .i64 x.r.m, .int .i64 x.r.n, .int .i64 x.r.p, .slice x.s.1 x.s.2.1 x.s.2.2, .slice x.t.1 x.t.2.1 x.t.2.2]), (bP, [.int .i64 x.p.s, .int .i64 x.p.o, .int .i64 x.p.l, .int .i64 x.p.p, .int .i64 x.p.m]), (f2, [.func (.yield l) #[] #[]]), (b3, [.int .i64 x.p.s, .int .i64 x.p.o, .int .i64 x.p.l, .int .i64 x.p.p, .int .i64 x.p.m]), (f7, [.pointer (some ⟨S, 0, none⟩)])] : List (Nat × List Value)) ++ L), G, (fs' ++ fs) ++ F⟩ : Fr3) co := at3_mk ((HE2st.out.toWc.perm (L' := ((C, CB pd.D gb p e2 0) :: (([(S, SB pd.D gb q false qx 0), (f3, [.bool m2]), (f4, [.pointer (some ⟨S, 0, none⟩)]), (bR, [.int .i64 x.r.m, .int .i64 x.r.n, .int .i64 x.r.p, .slice x.s.1 x.s.2.1 x.s.2.2, .slice x.t.1 x.t.2.1 x.t.2.2]), (bP, [.int .i64 x.p.s, .int .i64 x.p.o, .int .i64 x.p.l, .int .i64 x.p.p, .int .i64 x.p.m]), (f2, [.func (.yield l) #[] #[]]), (b3, [.int .i64 x.p.s, .int .i64 x.p.o, .int .i64 x.p.l, .int .i64 x.p.p, .int .i64 x.p.m]), (f7, [.pointer (some ⟨S, 0, none⟩)])] : List (Nat × List Value)) ++ L)) ++ co.L) (perm_any (fun c => by simp only [List.map_cons, List.map_append, List.sum_cons, List.sum_append, List.cons_append, List.map_nil, List.sum_nil] <;> omega)) (List.Perm.refl _)).subF (fun f hf => by simpa [List.append_assoc] using hf))
       have hkb2 : Kb W.heap.size W1 w2 := HE2st.out.kb.mono (Nat.le_trans hsz6 hsz1)
       have hkf2 : KeepsFrom w6.heap.size W1 w2 := kf_of_kb HE2st.out.kb
       have hs2 : W.heap.size ≤ w2.heap.size := Nat.le_trans (Nat.le_trans hsz6 hsz1) HE2st.out.hs
       have hpre2 : ((told ++ pre) ++ [x]).map Fnd.pr <+: (chainG d cf k0 p).1 := by
        rw [List.append_assoc, List.map_append, HSC.out]
        exact (List.prefix_append_right_inj _).2 (HPX.out.trans (scan_prefix_chain d cf k q))
       have hlen2 : (told ++ pre).length < N := by
        have g1 := hpre2.length_le
        have g2 := HN.out
        rw [List.length_map, List.length_append] at g1
        simp at g1 g2 ⊢
        omega
       obtain ⟨fn, tmps, assign, bdy, hy, hR⟩ := HYY.out (told ++ pre) x _ co w2 ⟨[(S, SB pd.D gb q false qx 0), (f3, [.bool m2]), (f4, [.pointer (some ⟨S, 0, none⟩)]), (bR, [.int .i64 x.r.m, .int .i64 x.r.n, .int .i64 x.r.p, .slice x.s.1 x.s.2.1 x.s.2.2, .slice x.t.1 x.t.2.1 x.t.2.2]), (bP, [.int .i64 x.p.s, .int .i64 x.p.o, .int .i64 x.p.l, .int .i64 x.p.p, .int .i64 x.p.m]), (f2, [.func (.yield l) #[] #[]]), (b3, [.int .i64 x.p.s, .int .i64 x.p.o, .int .i64 x.p.l, .int .i64 x.p.p, .int .i64 x.p.m]), (f7, [.pointer (some ⟨S, 0, none⟩)])], qx, fs' ++ fs, by rw [HON.out], (by
        intro y hy
        rw [List.append_assoc] at hy
        rcases List.mem_append.1 hy with hy | hy
        ·exact List.mem_append_right _ (HFS.out y hy)
        ·exact List.mem_append_left _ (HFS2.out y hy)), hpre2, HFO.out⟩ (HJC.out _ _ _ _ _ HJ.out hkb2) hA2 hs2 hlen2
       simp only [Fnd.enc, Rc.cells, slv] at hy
       have HKB2 := Lib.hid hkb2
       have HKF2 := Lib.hid hkf2
       clear hA2 hkb2 hkf2 hs2 hpre2 hlen2
       have cY := own1 (HE2st.out.boxi 6 rfl)
       obtain ⟨p0, p1, p2, p3, p4⟩ := own5 (HE2st.out.boxi 5 rfl)
       obtain ⟨r0, r1, r2, r3, r4⟩ := own5 (HE2st.out.boxi 4 rfl)
       gi_wp2_with fail
       refine ⟨fun _ => by omega, (round_wide lr (n - 1 - 1 - 1) hR).mono ?_⟩
       rintro e3 W' ⟨c', hA', hkf, hend⟩
       have hin : At3 w0 W' ⟨(S, SB pd.D gb q false qx 0) :: (b3, [.int .i64 x.p.s, .int .i64 x.p.o, .int .i64 x.p.l, .int .i64 x.p.p, .int .i64 x.p.m]) :: ((f7, [.pointer (some ⟨S, 0, none⟩)]) :: L), G, fs' ++ (fs ++ F)⟩ (ChC C pd.D gb p e2 f2 f3 f4 S l m2 c') := at3_mk ((((at3_get (fs := fs' ++ fs) hA').perm (L' := (bR, [.int .i64 x.r.m, .int .i64 x.r.n, .int .i64 x.r.p, .slice x.s.1 x.s.2.1 x.s.2.2, .slice x.t.1 x.t.2.1 x.t.2.2]) :: (bP, [.int .i64 x.p.s, .int .i64 x.p.o, .int .i64 x.p.l, .int .i64 x.p.p, .int .i64 x.p.m]) :: (((S, SB pd.D gb q false qx 0) :: (b3, [.int .i64 x.p.s, .int .i64 x.p.o, .int .i64 x.p.l, .int .i64 x.p.p, .int .i64 x.p.m]) :: ((f7, [.pointer (some ⟨S, 0, none⟩)]) :: L)) ++ ((f4, [.pointer (some ⟨S, 0, none⟩)]) :: (C, CB pd.D gb p e2 0) :: (f3, [.bool m2]) :: (f2, [.func (.yield l) #[] #[]]) :: c'.L))) (perm_any (fun c => by simp only [List.map_cons, List.map_append, List.sum_cons, List.sum_append, List.cons_append, List.map_nil, List.sum_nil] <;> omega)) (List.Perm.refl _)).ldrop.ldrop).subF (fun f hf => by simpa [List.append_assoc] using hf))
       have hkk : KeepsFrom w6.heap.size W1 W' := HKF2.out.trans ⟨hkf.size, fun k o hk => hkf.same k o (by omega)⟩
       have hmm : Marks W.heap.size Ds W' := (HM.out.kb (C := W1.heap.size) HE2st.out.kb HM.out.lt).kf hkf
       have hoo : OnSt d cf (pre ++ [x]) e2 m2 := .inr ⟨pre, x, qx, rfl, HFO.out, by rw [HON.out], by rw [HON.out]⟩
       rcases hend with ⟨rfl, hj'⟩ | ⟨rfl, cd, hj'⟩
       ·gi_wp2
        exact ⟨hkk, _, hin, c', e2, m2, rfl, by rw [← List.append_assoc]; exact hj', hmm, hoo⟩
       ·gi_wp2
        exact ⟨hkk, _, hin, c', e2, m2, cd, rfl, rfl, by rw [← List.append_assoc]; exact hj', hmm, hoo⟩
     case done =>
      as_aux_lemma =>
       rintro D xs φ cc W2 hD ⟨fs', rfl, hfs', hxs⟩ ⟨co, e, more, rfl, hj, hm, ho⟩ hat hK hsz2
       have hdn := ho.done hxs
       obtain ⟨E0, E1, E2, hE⟩ : ∃ a b c, scanR d cf false q = (a, b, c) := ⟨_, _, _, rfl⟩
       rw [hE] at hat hxs hdn
       dsimp only at hat hxs hdn
       have hat1 : Wc w0 W2 (((S, SB pd.D gb q false E1 E2) :: (f7, [.pointer (some ⟨S, 0, none⟩)]) :: L) ++ ((f4, [.pointer (some ⟨S, 0, none⟩)]) :: (C, CB pd.D gb p e 0) :: (f3, [.bool more]) :: (f2, [.func (.yield l) #[] #[]]) :: co.L)) (G ++ co.G) ((fs' ++ (fs ++ F)) ++ co.F) := hat
       have HF := Lib.hid ((Wk.start hat1).perm (L' := (S, SB pd.D gb q false E1 E2) :: (C, CB pd.D gb p e 0) :: (f3, [.bool more]) :: (f4, [.pointer (some ⟨S, 0, none⟩)]) :: (f2, [.func (.yield l) #[] #[]]) :: (f7, [.pointer (some ⟨S, 0, none⟩)]) :: (L ++ co.L)) (perm_any (fun c => by simp only [List.map_cons, List.map_append, List.sum_cons, List.sum_append, List.cons_append, List.map_nil, List.sum_nil] <;> omega)) (List.Perm.refl _))
       have HFS2 : Hid (∀ y ∈ told ++ xs, y.fct ∈ fs' ++ fs) := Lib.hid (fun y hy => (List.mem_append.1 hy).elim (fun h => List.mem_append_right _ (HFS.out y h)) (fun h => List.mem_append_left _ (hfs' y h)))
       have hms : Marks W.heap.size (D :: Ds) W2 := hm.cons (Nat.le_trans hsz6 hD) (fun E hE => Nat.lt_of_lt_of_le (HDL.out E hE) hD) hK
       have HM := Lib.hid hms
       have HJ := Lib.hid hj
       have HE := Lib.hid hE
       have HXS := Lib.hid hxs
       have hszz : W.heap.size ≤ W2.heap.size := Nat.le_trans hsz6 hsz2
       clear hat hat1 hms hj hm ho hK hfs' hE hxs H00 HJ6 HMK6
       have c3 := own1 (HF.out.boxi 2 rfl)
       rcases hdn with ⟨rfl, v, hnx, rfl⟩ | ⟨rfl, hnx⟩
       ·have hen := HKQ.out
        rw [chEnds_some (by rw [HE.out]; exact hnx), HE.out] at hen
        have HEN := Lib.hid hen
        have hch := HSC.out
        rw [chainG_some (by rw [HE.out]; exact hnx), HE.out] at hch
        dsimp only at hen hch
        have HCH : Hid (chainG d cf k0 p = ((told ++ xs).map Fnd.pr ++ (chainG d cf k (turnP E1 v)).1, (chainG d cf k (turnP E1 v)).2)) := Lib.hid (by rw [hch, List.map_append, HXS.out, List.append_assoc])
        have HSZ : Hid (W.heap.size ≤ (W2.alloc (.cells #[.bool true] 4)).heap.size) := Lib.hid (by rw [World.size_alloc]; omega)
        clear hen hch hnx
        gi_wp2_with fail
        refine Handed.intro k (by omega) ?_
        gi_step
        exact ⟨_, _, _, rfl, rfl, told ++ xs, co, fs' ++ fs, true, turnP E1 v, 0, D :: Ds, rfl, HSZ.out, ((HF.out.newB #[.bool true] 4 (b := W2.heap.size) rfl).toWc.perm (L' := (S, SB pd.D gb q false E1 E2) :: (f3, [.bool true]) :: (f4, [.pointer (some ⟨S, 0, none⟩)]) :: (f7, [.pointer (some ⟨S, 0, none⟩)]) :: (C, CB pd.D gb p (turnP E1 v) 0) :: (W2.heap.size, [.bool true]) :: (f2, [.func (.yield l) #[] #[]]) :: (L ++ co.L)) (perm_any (fun c => by simp only [List.map_cons, List.map_append, List.sum_cons, List.sum_append, List.cons_append, List.map_nil, List.sum_nil] <;> omega)) (List.Perm.refl _)).ldrop.ldrop.ldrop.ldrop.subF (fun f hf => by simpa [List.append_assoc] using hf), HFS2.out, HJC.out _ _ _ _ _ HJ.out (kb_only0 ((Only.refl _ _).alloc _)), HM.out.kb (C := W2.heap.size) (kb_only0 ((Only.refl _ _).alloc _)) HM.out.lt, .inl ⟨rfl, rfl, HEN.out, HCH.out⟩⟩
       ·gi_upto_region 13 with (fail)
        clear c3
        have HY := Lib.hid HF.out.drew
        clear HF
        refine wpIn_wide.2 (wp_region_held_drew (S := (fun w' => w'.cell? ⟨b1, 0, none⟩ = some (.pointer (some ⟨C, 0, none⟩)) ∧ w'.cell? ⟨f4, 0, none⟩ = some (.pointer (some ⟨S, 0, none⟩)))) (by kernel_rfl) ⟨own1 (HY.out.own _ (List.mem_cons_of_mem _ (List.mem_cons_of_mem _ (List.mem_cons_of_mem _ (List.mem_cons_of_mem _ (List.mem_cons_of_mem _ (List.mem_cons_of_mem _ (List.mem_append_left _ HB1.out)))))))), own1 (HY.out.boxi 3 rfl)⟩ (fun hSw0 => ?_))
        generalize W2.drew = wz at *
        refine Kn.takeS 0 ⟨some 55, _, _, _, _, _⟩ (hQ := fun _ _ _ h => h.elim) (v := (.pointer (some ⟨C, 0, none⟩))) (hy := fun w hSw => by
         have q0 := hSw.1
         go_simp) ?_
        refine Kn.takeS 1 ⟨some 56, _, _, _, _, _⟩ (hQ := fun _ _ _ h => h.elim) (v := (.pointer (some ⟨C, 0, none⟩))) (hy := fun w hSw => by
         have q0 := hSw.1
         go_simp) ?_
        refine Kn.takeS 2 ⟨some 57, _, _, _, _, _⟩ (hQ := fun _ _ _ h => h.elim) (v := (.pointer (some ⟨S, 0, none⟩))) (hy := fun w hSw => by
         have q0 := hSw.2
         go_simp) ?_
        refine Kn.takeS 4 ⟨some 59, _, _, _, _, _⟩ (hQ := fun _ _ _ h => h.elim) (v := (.pointer (some ⟨S, 0, none⟩))) (hy := fun w hSw => by
         have q0 := hSw.2
         go_simp) ?_
        refine Kn.takeR 3 ⟨some 58, _, _, _, _, _⟩ fun K hK => ?_
        go_simp
        refine (scan_end_any w0 _ S gb pd.D q false E1 E2 _ _ _ HY.out).mono ?_
        rintro en v1 ⟨rfl, hO⟩
        have HYe := Lib.hid (HY.out.keep0 hO)
        clear hO HY
        refine hK.out _ _ ⟨own1 (HYe.out.own _ (List.mem_cons_of_mem _ (List.mem_cons_of_mem _ (List.mem_cons_of_mem _ (List.mem_cons_of_mem _ (List.mem_cons_of_mem _ (List.mem_cons_of_mem _ (List.mem_append_left _ HB1.out)))))))), own1 (HYe.out.boxi 3 rfl)⟩ (fun hSn => ?_)
        clear hK K hSw0
        have hSw0 := hSn
        clear hSn
        refine Kn.takeR 5 ⟨some 60, _, _, _, _, _⟩ fun K hK => ?_
        go_simp
        refine (scan_err_any w0 _ S gb pd.D q false E1 E2 _ _ _ HYe.out).mono ?_
        rintro en v2 ⟨rfl, rfl⟩
        refine hK.out _ _ ⟨own1 (HYe.out.own _ (List.mem_cons_of_mem _ (List.mem_cons_of_mem _ (List.mem_cons_of_mem _ (List.mem_cons_of_mem _ (List.mem_cons_of_mem _ (List.mem_cons_of_mem _ (List.mem_append_left _ HB1.out)))))))), own1 (HYe.out.boxi 3 rfl)⟩ (fun hSn => ?_)
        clear hK K hSw0
        have hSw0 := hSn
        clear hSn
        refine Kn.takeS 6 ⟨some 61, _, _, _, _, _⟩ (hQ := fun _ _ _ h => h.elim) ?_
        refine Kn.takeS 7 ⟨some 62, _, _, _, _, _⟩ (hQ := fun _ _ _ h => h.elim) ?_
        refine Kn.takeR 8 ⟨none, _, _, _, _, _⟩ fun K hK => ?_
        have bC := HYe.out.boxi 1 rfl
        have c7 := bC.cellv 7
        have c8 := bC.cellv 8
        have c9 := bC.cellv 9
        have c10 := bC.cellv 10
        have c11 := bC.cellv 11
        have z7 := bC.frozen 7
        have z8 := bC.frozen 8
        have z9 := bC.frozen 9
        have z10 := bC.frozen 10
        have z11 := bC.frozen 11
        have lC := bC.lt
        go_simp
        have HYes : Hid (Wk w0 W2 _ ((S, SB pd.D gb q false E1 E2) :: (C, CB pd.D gb p E1 0) :: (f3, [.bool false]) :: (f4, [.pointer (some ⟨S, 0, none⟩)]) :: (f2, [.func (.yield l) #[] #[]]) :: (f7, [.pointer (some ⟨S, 0, none⟩)]) :: (L ++ co.L)) (G ++ co.G) ((fs' ++ (fs ++ F)) ++ co.F)) := Lib.hid (((((HYe.out.put 1 rfl 7 (.int .i64 E1.s)).put 1 rfl 8 (.int .i64 E1.o)).put 1 rfl 9 (.int .i64 E1.l)).put 1 rfl 10 (.int .i64 E1.p)).put 1 rfl 11 (.int .i64 E1.m))
        clear c7 z7 c8 z8 c9 z9 c10 z10 c11 z11 bC lC HYe
        obtain ⟨wy, hgn⟩ : ∃ x, x = (World.setCell (World.setCell (World.setCell (World.setCell (World.setCell v1 ⟨C, 7, none⟩ (.int .i64 E1.s)) ⟨C, 8, none⟩ (.int .i64 E1.o)) ⟨C, 9, none⟩ (.int .i64 E1.l)) ⟨C, 10, none⟩ (.int .i64 E1.p)) ⟨C, 11, none⟩ (.int .i64 E1.m)) := ⟨_, rfl⟩
        rw [← hgn] at HYes ⊢
        clear hgn
        refine hK.out _ _ ⟨own1 (HYes.out.own _ (List.mem_cons_of_mem _ (List.mem_cons_of_mem _ (List.mem_cons_of_mem _ (List.mem_cons_of_mem _ (List.mem_cons_of_mem _ (List.mem_cons_of_mem _ (List.mem_append_left _ HB1.out)))))))), own1 (HYes.out.boxi 3 rfl)⟩ (fun hSn => ?_)
        clear hK K hSw0
        have hSw0 := hSn
        clear hSn
        refine Kn.takeS 9 ⟨some 63, _, _, _, _, _⟩ (hQ := fun _ _ _ h => h.elim) ?_
        refine Kn.takeS 10 ⟨some 64, _, _, _, _, _⟩ (hQ := fun _ _ _ h => h.elim) ?_
        refine Kn.takeR 11 ⟨none, _, _, _, _, _⟩ fun K hK => ?_
        have bC := HYes.out.boxi 1 rfl
        have c12 := bC.cellv 12
        have z12 := bC.frozen 12
        have lC := bC.lt
        go_simp
        have HYest : Hid (Wk w0 W2 _ ((S, SB pd.D gb q false E1 E2) :: (C, CB pd.D gb p E1 E2) :: (f3, [.bool false]) :: (f4, [.pointer (some ⟨S, 0, none⟩)]) :: (f2, [.func (.yield l) #[] #[]]) :: (f7, [.pointer (some ⟨S, 0, none⟩)]) :: (L ++ co.L)) (G ++ co.G) ((fs' ++ (fs ++ F)) ++ co.F)) := Lib.hid (HYes.out.put 1 rfl 12 (.int .i64 E2))
        clear c12 z12 bC lC HYes
        obtain ⟨wx2, hgn⟩ : ∃ x, x = (World.setCell wy ⟨C, 12, none⟩ (.int .i64 E2)) := ⟨_, rfl⟩
        rw [← hgn] at HYest ⊢
        clear hgn
        refine hK.out _ _ ⟨own1 (HYest.out.own _ (List.mem_cons_of_mem _ (List.mem_cons_of_mem _ (List.mem_cons_of_mem _ (List.mem_cons_of_mem _ (List.mem_cons_of_mem _ (List.mem_cons_of_mem _ (List.mem_append_left _ HB1.out)))))))), own1 (HYest.out.boxi 3 rfl)⟩ (fun hSn => ?_)
        clear hK K hSw0
        have hSw0 := hSn
        clear hSn
        refine wpAnyH_done (by kernel_rfl) ?_ _
        clear hSw0
        have c3 := own1 (HYest.out.boxi 2 rfl)
        gi_wp2_with fail
        refine Handed.intro k (by omega) ?_
        gi_step
        exact ⟨_, _, _, rfl, rfl, told ++ xs, co, fs' ++ fs, false, E1, E2, D :: Ds, rfl, by have := HYest.out.hs; simp; omega, ((HYest.out.newB #[.bool false] 4 (b := wx2.heap.size) rfl).toWc.perm (L' := (S, SB pd.D gb q false E1 E2) :: (f3, [.bool false]) :: (f4, [.pointer (some ⟨S, 0, none⟩)]) :: (f7, [.pointer (some ⟨S, 0, none⟩)]) :: (C, CB pd.D gb p E1 E2) :: (wx2.heap.size, [.bool false]) :: (f2, [.func (.yield l) #[] #[]]) :: (L ++ co.L)) (perm_any (fun c => by simp only [List.map_cons, List.map_append, List.sum_cons, List.sum_append, List.cons_append, List.map_nil, List.sum_nil] <;> omega)) (List.Perm.refl _)).ldrop.ldrop.ldrop.ldrop.subF (fun f hf => by simpa [List.append_assoc] using hf), HFS2.out, HJC.out _ _ _ _ _ HJ.out ((HYest.out.kb.mono hszz).trans (kb_only0 ((Only.refl _ _).alloc _))), (HM.out.kb (C := W2.heap.size) (HYest.out.kb.trans (kb_only0 ((Only.refl _ _).alloc _))) HM.out.lt), .inr ⟨rfl, by rw [HSC.out, chainG_none (by rw [HE.out]; exact hnx), HE.out, List.map_append, HXS.out]⟩⟩
     case stop =>
      as_aux_lemma =>
       rintro D cd pre φ cc W2 hD ⟨qx, fs', rfl, hfs', hpx, pre', x, rfl, hfo⟩ ⟨co, e, more, cd', rfl, rfl, hj, hm, ho⟩ hat hK hsz2
       obtain ⟨he, -⟩ := ho.snoc hfo
       have hat1 : Wc w0 W2 (((S, SB pd.D gb q false qx 0) :: (f7, [.pointer (some ⟨S, 0, none⟩)]) :: L) ++ ((f4, [.pointer (some ⟨S, 0, none⟩)]) :: (C, CB pd.D gb p e 0) :: (f3, [.bool more]) :: (f2, [.func (.yield l) #[] #[]]) :: co.L)) (G ++ co.G) ((fs' ++ (fs ++ F)) ++ co.F) := hat
       have hA2 : At3 w0 W2 (⟨(C, CB pd.D gb p e 0) :: (([(S, SB pd.D gb q false qx 0), (f3, [.bool more]), (f4, [.pointer (some ⟨S, 0, none⟩)]), (f2, [.func (.yield l) #[] #[]]), (f7, [.pointer (some ⟨S, 0, none⟩)])] : List (Nat × List Value)) ++ L), G, (fs' ++ fs) ++ F⟩ : Fr3) co := at3_mk ((hat1.perm (L' := ((C, CB pd.D gb p e 0) :: (([(S, SB pd.D gb q false qx 0), (f3, [.bool more]), (f4, [.pointer (some ⟨S, 0, none⟩)]), (f2, [.func (.yield l) #[] #[]]), (f7, [.pointer (some ⟨S, 0, none⟩)])] : List (Nat × List Value)) ++ L)) ++ co.L) (perm_any (fun c => by simp only [List.map_cons, List.map_append, List.sum_cons, List.sum_append, List.cons_append, List.map_nil, List.sum_nil] <;> omega)) (List.Perm.refl _)).subF (fun f hf => by simpa [List.append_assoc] using hf))
       have hms : Marks W.heap.size (D :: Ds) W2 := hm.cons (Nat.le_trans hsz6 hD) (fun E hE => Nat.lt_of_lt_of_le (HDL.out E hE) hD) hK
       clear hat hat1 hm hK H00 HJ6 HMK6
       gi_wp2_with fail
       show LeavesInM Fence.wide n Tryz.prog Tryz.f179 _ _ ((D :: Ds).map mkD) .returning W2
       refine marks_many (B := W.heap.size) (fun V => At3 w0 V (⟨(C, CB pd.D gb p e 0) :: (([(S, SB pd.D gb q false qx 0), (f3, [.bool more]), (f4, [.pointer (some ⟨S, 0, none⟩)]), (f2, [.func (.yield l) #[] #[]]), (f7, [.pointer (some ⟨S, 0, none⟩)])] : List (Nat × List Value)) ++ L), G, (fs' ++ fs) ++ F⟩ : Fr3) co ∧ J (some cd') (told ++ (pre' ++ [x])) co V ∧ W.heap.size ≤ V.heap.size) ?_ ?_ (D :: Ds) W2 ⟨hA2, hj, Nat.le_trans hsz6 hsz2⟩ hms
       ·rintro V E ⟨g1, g2, g3⟩ hE hKE2
        exact ⟨g1.putObj _ hKE2 rfl (Nat.le_trans hws hE), HJC.out _ _ _ _ _ g2 (kb_putObj _ _ hE), by simpa using g3⟩
       ·rintro V ⟨g1, g2, g3⟩
        exact ⟨_, results_none rfl _ _ _, ⟨_, rfl⟩, g3, _, _, g1, .inr ⟨told ++ (pre' ++ [x]), cd', ⟨[(S, SB pd.D gb q false qx 0), (f3, [.bool more]), (f4, [.pointer (some ⟨S, 0, none⟩)]), (f2, [.func (.yield l) #[] #[]]), (f7, [.pointer (some ⟨S, 0, none⟩)])], qx, fs' ++ fs, told ++ pre', x, by rw [he], (fun y hy => (List.mem_append.1 hy).elim (fun h => List.mem_append_right _ (HFS.out y h)) (fun h => List.mem_append_left _ (hfs' y h))), (by rw [List.map_append, HSC.out]; exact (List.prefix_append_right_inj _).2 (hpx.trans (scan_prefix_chain d cf k q))), by rw [List.append_assoc], hfo⟩, g2⟩⟩
  ·as_aux_lemma =>
    have HW := Lib.hid hw
    have c3 := own1 (HW.out.boxi 1 rfl)
    clear hw
    gi_wp2_with fail
    show LeavesInM Fence.wide n Tryz.prog Tryz.f179 _ _ (Ds.map mkD) .returning wr
    refine marks_many (B := W.heap.size) (fun V => At3 w0 V (⟨(C, CB pd.D gb p q er) :: (([(f3, [.bool false]), (f2, [.func (.yield l) #[] #[]])] : List (Nat × List Value)) ++ L), G, fs ++ F⟩ : Fr3) c ∧ J none told c V ∧ W.heap.size ≤ V.heap.size) ?_ ?_ Ds wr ⟨at3_mk HW.out, hJt, hsz⟩ hmk
    ·rintro V E ⟨g1, g2, g3⟩ hE hKE2
     exact ⟨g1.putObj _ hKE2 rfl (Nat.le_trans hws hE), HJC.out _ _ _ _ _ g2 (kb_putObj _ _ hE), by simpa using g3⟩
    ·rintro V ⟨g1, g2, g3⟩
     exact ⟨_, results_none rfl _ _ _, ⟨_, rfl⟩, g3, _, _, g1, .inl ⟨told, ⟨[(f3, [.bool false]), (f2, [.func (.yield l) #[] #[]])], fs, by rw [hsc], hfs, by rw [hsc]⟩, g2⟩⟩
end Go.Proofs.YtgcfdjcpcclcjaaGreat
namespace Go.Proofs.YtgcfdjcpcclcjaaGreat
open Go Go.RowKit Go.Kn Go.Shelf
attribute [local go_sem] Oper.semAt_some
theorem infoFound14 : (Tryz.prog.info? 118).map (fun i => (i.zero, i.size, i.bytes)) = some (some (.agg #[.int .i64 0, .int .i64 0, .int .i64 0, .int .i64 0, .int .i64 0, .int .i64 0, .int .i64 0, .int .i64 0, .slice none 0 0, .slice none 0 0]), 10, 112) := by kernel_rfl
def WkSays (w0 wb : World) (C D gb : Nat) (p : Ps) (L : List (Nat × List Value)) (G : List Gs) (F : List (World → Prop)) (x : List (Ps × Rc) × Ps × Int) (en : Ending) (w' : World) : Prop :=
 ∃ (xs : List Fnd) (A : Option Addr) (c : Nat) (fs : List (World → Prop)), en = .returned (.slice A xs.length c) ∧ xs.map Fnd.pr = x.1 ∧ (∀ y ∈ xs, y.fct ∈ fs) ∧
  Wk w0 wb w' ((C, CB D gb p x.2.1 x.2.2) :: L) (⟨118, 10, .slice A xs.length c, xs.length, rfndV xs⟩ :: G) (fs ++ F)
def WcC (b3 b6 most : Nat) (A : Option Addr) (c : Nat) (pre : List Fnd) : Fr3 := ⟨[(b6, [.slice A pre.length c]), (b3, [.int .i64 (most : Int)])], [⟨118, 10, .slice A pre.length c, pre.length, rfndV pre⟩], []⟩
def WcJ (wb : World) (b3 b6 most : Nat) : Option Code → List Fnd → Fr3 → World → Prop
 | none, pre, c, W => ∃ (A : Option Addr) (k : Nat), c = WcC b3 b6 most A k pre ∧ Kb wb.heap.size wb W
 | some _, _, _, _ => False
def WcM (wb : World) (C b3 b6 bS most : Nat) (pre : List Fnd) (x : Fnd) (a : Act) (c : Fr3) (W : World) : Prop :=
 ∃ (A : Option Addr) (k bR bP : Nat), c = ⟨(bR, (x.r.cells x.s x.t).toList) :: (bP, [.int .i64 x.p.s, .int .i64 x.p.o, .int .i64 x.p.l, .int .i64 x.p.p, .int .i64 x.p.m]) :: (WcC b3 b6 most A k pre).L, (WcC b3 b6 most A k pre).G, []⟩ ∧
  a = { tmps := #[.pointer (some ⟨C, 0, none⟩), .int .i64 (most : Int), undef, .pointer (some ⟨b3, 0, none⟩), .slice none 0 0, .func (.func 179) #[] #[.pointer (some ⟨bS, 0, none⟩)], .pointer (some ⟨b6, 0, none⟩), .pointer (some ⟨bP, 0, none⟩), .pointer (some ⟨bR, 0, none⟩), .pointer (some ⟨C, 0, none⟩), .func (.func 179) #[] #[.pointer (some ⟨bS, 0, none⟩)], .func (.func 179) #[] #[.pointer (some ⟨bS, 0, none⟩)], .bool false, .func (.func 179) #[] #[.pointer (some ⟨bS, 0, none⟩)], .agg #[.int .i64 x.p.s, .int .i64 x.p.o, .int .i64 x.p.l, .int .i64 x.p.p, .int .i64 x.p.m], .agg (x.r.cells x.s x.t), undef, undef, undef, undef, undef, undef, undef, undef, undef, undef, undef], defers := [] } ∧ Kb wb.heap.size wb W
set_option maxRecDepth 100000 in
set_option maxHeartbeats 8000000 in
theorem walk14_any {wb : World} (w0 w : World) (C gb : Nat) (pd : PD) (d : Dk) (cf : Cf) (p : Ps) (e : Ps) (er : Int) (k0 : Nat) (L : List (Nat × List Value)) (G : List Gs) (F : List (World → Prop)) (most : Nat)
  (hw : Wk w0 wb w ((C, CB pd.D gb p e er) :: L) G F) (hd : DkIn pd d L) (hg : (fun W => GeoAt W gb cf.b cf.s cf.l) ∈ F) (hc : cf.Ok) (hk : ChEnds d cf k0 p) (hm : (chainG d cf k0 p).1.length ≤ most) (hmm : most ≤ 1000) :
  Calls Tryz.prog 57 #[.pointer (some ⟨C, 0, none⟩), .int .i64 (most : Int)] w (WkSays w0 wb C pd.D gb p L G F (chainG d cf k0 p)) := by
 have HA := Lib.hid hw
 have HDK := Lib.hid hd
 obtain ⟨i0, hi0, hz0, hz1, hz2⟩ := info_parts infoFound14
 have HG := Lib.hid hg
 have HM := Lib.hid hm
 have HKE := Lib.hid hk
 clear hw hd hg hm hk
 have hfn := fun (w : World) (x y : Array Value) => run_eql_func_nil (P := Tryz.prog) w 172 Tryz.underlying172 (.func 179) x y
 refine (callsIn_wide (n := 6)).1 (callsIn_of_wp_marks Tryz.func57 rfl trivial ?_ rfl)
 simp only [Tryz.ntmps57, List.size_toArray, List.length_cons, List.length_nil, Nat.reduceAdd, Nat.reduceSub, Array.replicate_succ, Array.replicate_zero, List.push_toArray, List.append_toArray, List.nil_append, List.cons_append]
 refine wpIn_wide.2 ?_
 go_wp2_with fail
 refine (chain_records_any _ _).mono ?_
 rintro en w1 ⟨rfl, rfl⟩
 go_wp2_with fail
 obtain ⟨b3, h3⟩ : ∃ k, k = w.heap.size := ⟨_, rfl⟩
 have hs1 : (w.alloc (.cells #[.int .i64 (most : Int)] 3)).heap.size = w.heap.size + 1 := by simp
 have hs2 : ((w.alloc (.cells #[.int .i64 (most : Int)] 3)).alloc (.cells #[.pointer (some ⟨C, 0, none⟩)] 113)).heap.size = w.heap.size + 1 + 1 := by simp
 have hw2 := ((((HA.out.newB #[.int .i64 (most : Int)] 3 rfl).newB #[.pointer (some ⟨C, 0, none⟩)] 113 hs1).newB #[.slice none 0 0] 115 hs2).gnew 118 10)
 generalize hz : ((w.alloc (.cells #[.int .i64 (most : Int)] 3)).alloc (.cells #[.pointer (some ⟨C, 0, none⟩)] 113)).alloc (.cells #[.slice none 0 0] 115) = w2 at *
 rw [← h3] at hw2 ⊢
 have HW2 := Lib.hid hw2
 obtain ⟨bS, hbS⟩ : ∃ k, k = b3 + 1 := ⟨_, rfl⟩
 rw [← hbS] at HW2 ⊢
 obtain ⟨b6, hb6⟩ : ∃ k, k = bS + 1 := ⟨_, rfl⟩
 rw [← hb6] at HW2 ⊢
 have hbw : wb.heap.size ≤ w2.heap.size := HW2.out.hs
 clear hw2 hz h3 hbS hb6 hs1 hs2 HA
 refine (wpIn_wide (n := 6)).1 ?_
 refine wpIn_rangeFunc_W (F := Fence.wide) (n := 6) rfl (by decide) (gf := 179) (lb := #[.pointer (some ⟨bS, 0, none⟩)]) rfl trivial (enters_of Tryz.func179 (by kernel_rfl) rfl)
  (c0 := WcC b3 b6 most none 0 []) (fun W1 _ => chrec1_seq w0 W1 C bS gb pd d cf p e er ((bS, [.pointer (some ⟨C, 0, none⟩)]) :: L) G F (6 - 1) (by decide) k0 most (HDK.out.mono (fun x hx => List.mem_cons_of_mem _ hx)) List.mem_cons_self HG.out hc HKE.out HM.out) (fun _ => rfl)
  (WcJ wb b3 b6 most) (WcM wb C b3 b6 bS most) ?hJ ?hJm ⟨none, 0, rfl, HW2.out.kb⟩ ?h0 ?assign ?body ?done ?stop
 case h0 =>
  show Wc w0 w2 _ _ (F ++ [])
  rw [List.append_nil]
  exact (HW2.out.perm (perm_w _ _ _ _ _) (List.perm_append_comm (l₁ := [_]))).toWc
 case hJ =>
  rintro (_ | cd) xs c X Y h hb
  ·obtain ⟨A, k, hc, hk⟩ := h
   exact ⟨A, k, hc, hk.trans (hb.mono hbw)⟩
  ·exact h.elim
 case hJm =>
  rintro pre x a c X Y ⟨A, k, bR, bP, hc, ha, hk⟩ hb
  exact ⟨A, k, bR, bP, hc, ha, hk.trans (hb.mono hbw)⟩
 case assign =>
  rintro lr pre x φ c W1 K hpre ⟨A, k, rfl, hk⟩ hat hsz hlen hK
  obtain ⟨xp, r, ⟨s1, s2, s3⟩, ⟨t1, t2, t3⟩⟩ := x
  simp only [Fnd.enc, Rc.cells, slv]
  have HAT := Lib.hid hat
  have HPRE := Lib.hid hpre
  clear hat hpre
  gi_wp2
  have hsw : (W1.alloc (.cells #[.int .i64 xp.s, .int .i64 xp.o, .int .i64 xp.l, .int .i64 xp.p, .int .i64 xp.m] 32)).heap.size = W1.heap.size + 1 := by simp
  have hat2 := (HAT.out.new1 #[.int .i64 xp.s, .int .i64 xp.o, .int .i64 xp.l, .int .i64 xp.p, .int .i64 xp.m] 32).new1 (r.cells (s1, s2, s3) (t1, t2, t3)) 56
  rw [hsw] at hat2
  (try rw [hsw])
  refine hK _ _ _ (kf_of_only (S := []) (((Only.refl _ _).alloc _).alloc _) (by simp)) hat2 ⟨A, k, W1.heap.size + 1, W1.heap.size, rfl, rfl, hk.trans (Kb.of_only (S := []) (((Only.refl _ _).alloc _).alloc _) (by simp))⟩
 case body =>
  rintro lr pre x φ c a' W1 ⟨X, q, fs, rfl, hfs, hpx, hfo⟩ ⟨A, k, bR, bP, rfl, rfl, hk⟩ hat hsz hlen
  obtain ⟨y, hy0⟩ : ∃ y, y = x := ⟨_, rfl⟩
  have HY0 := Lib.hid hy0
  have hpl := hpx.length_le
  have hml := HM.out
  simp only [List.length_map, List.length_append, List.length_cons, List.length_nil] at hpl
  obtain ⟨xp, r, ⟨s1, s2, s3⟩, ⟨t1, t2, t3⟩⟩ := x
  simp only [Rc.cells, slv]
  have HF := Lib.hid (Wk.start hat.flip)
  have hyo : rfnd y = [.int .i64 xp.s, .int .i64 xp.o, .int .i64 xp.l, .int .i64 xp.p, .int .i64 xp.m, .int .i64 r.m, .int .i64 r.n, .int .i64 r.p, .slice s1 s2 s3, .slice t1 t2 t3] := by rw [hy0]; rfl
  have HYO := Lib.hid hyo
  obtain ⟨j, hj⟩ : ∃ j, j = pre.length := ⟨_, rfl⟩
  have HJ := Lib.hid hj
  have hjm : (j : Int) < (most : Int) := by omega
  have hj9 : j < 1000 := by omega
  have hwa : (WcC b3 b6 most A k pre) = ⟨[(b6, [.slice A j k]), (b3, [.int .i64 (most : Int)])], [⟨118, 10, .slice A j k, j, rfndV pre⟩], []⟩ := by rw [hj]; rfl
  rw [hwa] at HF
  have yR := HF.out.boxi 0 rfl
  simp only [Rc.cells, slv] at yR
  obtain ⟨r0, r1, r2, r3, r4⟩ := Kn.own5 yR
  obtain ⟨p0, p1, p2, p3, p4⟩ := own5 (HF.out.boxi 1 rfl)
  have y6 := HF.out.boxi 2 rfl
  have c6 := y6.cell 0 (by simp)
  have f6 := y6.frozen 0
  have l6 := y6.lt
  have c3 := (HF.out.boxi 3 rfl).cell 0 (by simp)
  simp only [List.getElem_cons_zero] at c6 c3
  have HD := Lib.hid (HF.out.alloc (.cells #[.int .i64 xp.s, .int .i64 xp.o, .int .i64 xp.l, .int .i64 xp.p, .int .i64 xp.m, .int .i64 r.m, .int .i64 r.n, .int .i64 r.p, .slice s1 s2 s3, .slice t1 t2 t3] 118))
  have hnw := news_new W1 #[.int .i64 xp.s, .int .i64 xp.o, .int .i64 xp.l, .int .i64 xp.p, .int .i64 xp.m, .int .i64 r.m, .int .i64 r.n, .int .i64 r.p, .slice s1 s2 s3, .slice t1 t2 t3] 118 (by simp [maxLen])
  have HNW := Lib.hid hnw
  have HON := Lib.hid (rfnd_one y)
  have HBS := Lib.hid HD.out.only.size
  rw [HYO.out] at HON
  clear hnw hyo hy0 hj hwa yR y6 hat hfs hpx hpl hml hfo
  refine wpIn_block ?_
  gi_wp2_with (first
   | (gi_at_builtin; refine wpListIn_append_own_at _ rfl (.tmp 20) (.tmp 24) 115 rfl w0.heap.size 118 i0 _ 10 112 Tryz.underlying115 hi0 hz0 hz1 hz2 rfl (by decide) (.slice A j k) j (rfndV pre) rfl (HD.out.gi 0 rfl) ⟨W1.heap.size, 0, none⟩ 1 1 [.int .i64 xp.s, .int .i64 xp.o, .int .i64 xp.l, .int .i64 xp.p, .int .i64 xp.m, .int .i64 r.m, .int .i64 r.n, .int .i64 r.p, .slice s1 s2 s3, .slice t1 t2 t3] rfl rfl HNW.out HON.out (by unfold maxLen; omega) (by omega) HBS.out ?_; intro v5 w5 hown hgrow _ hat2; rw [← HYO.out, ← rfndV_snoc] at hown; have hdd := HD.out.gapp 0 rfl hown hgrow hat2; obtain ⟨A6, k6, rfl⟩ := hdd.gform 0 rfl; simp only [List.set_cons_zero, List.set_cons_succ] at hdd; have HD5 := Lib.hid hdd; have HGR := Lib.hid hgrow; clear hdd hown hgrow hat2 HNW HON HBS c6 f6 l6; have y6 := HD5.out.boxi 2 rfl; have c6 := y6.cell 0 (by simp); have f6 := y6.frozen 0; have l6 := y6.lt; simp only [List.getElem_cons_zero] at c6; clear y6)
   | fail)
  have hl2 : (pre ++ [y]).length = j + 1 := by simp [HJ.out]
  have hwa2 : WcC b3 b6 most A6 k6 (pre ++ [y]) = ⟨[(b6, [.slice A6 (j + 1) k6]), (b3, [.int .i64 (most : Int)])], [⟨118, 10, .slice A6 (j + 1) k6, j + 1, rfndV (pre ++ [y])⟩], []⟩ := by unfold WcC; rw [hl2]
  have hw6 := (HD5.out.put 2 (p := b6) rfl 0 (.slice A6 (j + 1) k6)).ldrop.ldrop
  rw [← HY0.out]
  refine ⟨kf_of_kb hw6.kb, WcC b3 b6 most A6 k6 (pre ++ [y]), ?_, ⟨A6, k6, rfl, hk.trans (hw6.kb.mono (Nat.le_trans hbw hsz))⟩⟩
  rw [hwa2]
  exact At3.unflip hw6.toWc
 case done =>
  rintro D xs φ c W1 hD ⟨X, fs, rfl, hfs, hxs⟩ ⟨A, k, rfl, hkb⟩ hat hK hsz
  have HF := Lib.hid (Wk.start hat.flip)
  obtain ⟨j, hj⟩ : ∃ j, j = xs.length := ⟨_, rfl⟩
  have HJ := Lib.hid hj
  have hwa : (WcC b3 b6 most A k xs) = ⟨[(b6, [.slice A j k]), (b3, [.int .i64 (most : Int)])], [⟨118, 10, .slice A j k, j, rfndV xs⟩], []⟩ := by rw [hj]; rfl
  rw [hwa] at HF
  have c6 := Kn.own1 (HF.out.boxi 0 rfl)
  clear hj hwa hat
  go_wp2_with fail
  refine marks_ret1 (v := .slice A j k) (D := D) hK (by kernel_rfl) rfl ?_
  have hw := HF.out.toWc.putObj (.deferred none) hK rfl (Nat.le_trans HW2.out.only.size hD)
  simp only [List.append_nil] at hw
  have hw2 := hw.sub (L' := (C, CB pd.D gb p (chainG d cf k0 p).2.1 (chainG d cf k0 p).2.2) :: L) (.cons _ (.cons _ (.cons_cons _ ((List.sublist_cons_self _ _).trans (List.sublist_append_right _ _))))) (fun f hf => hf)
  rw [HJ.out] at hw2 ⊢
  exact ⟨xs, A, k, fs, rfl, hxs, hfs, hw2, hkb.trans (kb_putObj _ _ (Nat.le_trans hbw hD))⟩
 case stop =>
  rintro D cd pre φ c W1 hD hfix hj
  exact hj.elim
end Go.Proofs.YtgcfdjcpcclcjaaGreat
namespace Go.Proofs.YtgcfdjcpcclcjaaGreat
open Go Go.RowKit Go.Kn Go.Shelf
attribute [local go_sem] Oper.semAt_some
set_option maxRecDepth 100000 in
set_option maxHeartbeats 4000000 in
theorem chrec1_nil (w0 W : World) (b1 : Nat) (L : List (Nat × List Value)) (G : List Gs) (F : List (World → Prop)) (n : Nat) (hn : 1 ≤ n) (hb1 : (b1, [.pointer none]) ∈ L) :
  SeqW Fence.wide n Tryz.prog 179 #[.pointer (some ⟨b1, 0, none⟩)] Fnd.enc (fun _ _ _ => False) (fun xs φ => xs = [] ∧ φ = ⟨L, G, F⟩) (fun _ _ => False) 65 w0 W ⟨L, G, F⟩ := by
 intro l J c0 hJc hY hJ0 hA
 have hA' : Wc w0 W (L ++ c0.L) (G ++ c0.G) (F ++ c0.F) := hA
 have c1 : (W.alloc (.cells #[.func (.yield l) #[] #[]] 221)).cell? ⟨b1, 0, none⟩ = some (.pointer none) := own1 ((hA'.alloc _).own _ (List.mem_append_left _ hb1))
 have hJ1 := hJc _ _ _ _ _ hJ0 (Kb.of_only (S := []) ((Only.refl _ _).alloc (.cells #[.func (.yield l) #[] #[]] 221)) (by simp))
 have hA2 := hA'.alloc (.cells #[.func (.yield l) #[] #[]] 221)
 refine callsIn_of_wp Tryz.func179 rfl trivial ?_ rfl
 simp only [Tryz.ntmps179, List.size_toArray, List.length_cons, List.length_nil, Nat.reduceAdd, Nat.reduceSub, Array.replicate_succ, Array.replicate_zero, List.push_toArray, List.append_toArray, List.nil_append, List.cons_append]
 gi_wp2_with fail
 refine bodyPost_ret (results_none rfl _ _ _) rfl ⟨⟨_, rfl⟩, by simp, ⟨L, G, F⟩, c0, hA2, [], ⟨rfl, rfl⟩, hJ1⟩
set_option maxRecDepth 100000 in
set_option maxHeartbeats 4000000 in
theorem walk14_nil {wb : World} (w0 w : World) (L : List (Nat × List Value)) (G : List Gs) (F : List (World → Prop)) (most : Nat)
  (hw : Wk w0 wb w L G F) (hmm : most ≤ 1000) :
  Calls Tryz.prog 57 #[.pointer none, .int .i64 (most : Int)] w fun e w' => e = .returned (.slice none 0 0) ∧ Wk w0 wb w' L G F := by
 have HA := Lib.hid hw
 clear hw
 have hfn := fun (w : World) (x y : Array Value) => run_eql_func_nil (P := Tryz.prog) w 172 Tryz.underlying172 (.func 179) x y
 refine (callsIn_wide (n := 6)).1 (callsIn_of_wp_marks Tryz.func57 rfl trivial ?_ rfl)
 simp only [Tryz.ntmps57, List.size_toArray, List.length_cons, List.length_nil, Nat.reduceAdd, Nat.reduceSub, Array.replicate_succ, Array.replicate_zero, List.push_toArray, List.append_toArray, List.nil_append, List.cons_append]
 refine wpIn_wide.2 ?_
 go_wp2_with fail
 refine (chain_records_any _ _).mono ?_
 rintro en w1 ⟨rfl, rfl⟩
 go_wp2_with fail
 obtain ⟨b3, h3⟩ : ∃ k, k = w.heap.size := ⟨_, rfl⟩
 have hs1 : (w.alloc (.cells #[.int .i64 (most : Int)] 3)).heap.size = w.heap.size + 1 := by simp
 have hs2 : ((w.alloc (.cells #[.int .i64 (most : Int)] 3)).alloc (.cells #[.pointer none] 113)).heap.size = w.heap.size + 1 + 1 := by simp
 have hw2 := ((HA.out.newB #[.int .i64 (most : Int)] 3 rfl).newB #[.pointer none] 113 hs1).newB #[.slice none 0 0] 115 hs2
 generalize hz : ((w.alloc (.cells #[.int .i64 (most : Int)] 3)).alloc (.cells #[.pointer none] 113)).alloc (.cells #[.slice none 0 0] 115) = w2 at *
 rw [← h3] at hw2 ⊢
 have HW2 := Lib.hid hw2
 obtain ⟨bS, hbS⟩ : ∃ k, k = b3 + 1 := ⟨_, rfl⟩
 rw [← hbS] at HW2 ⊢
 obtain ⟨b6, hb6⟩ : ∃ k, k = bS + 1 := ⟨_, rfl⟩
 rw [← hb6] at HW2 ⊢
 have hbw : wb.heap.size ≤ w2.heap.size := HW2.out.hs
 clear hw2 hz h3 hbS hb6 hs1 hs2 HA
 refine (wpIn_wide (n := 6)).1 ?_
 refine wpIn_rangeFunc_W (F := Fence.wide) (n := 6) rfl (by decide) (gf := 179) (lb := #[.pointer (some ⟨bS, 0, none⟩)]) rfl trivial (enters_of Tryz.func179 (by kernel_rfl) rfl)
  (φ0 := ⟨(bS, [.pointer none]) :: L, G, F⟩) (c0 := ⟨[(b6, [.slice none 0 0])], [], []⟩) (fun W1 _ => chrec1_nil w0 W1 bS ((bS, [.pointer none]) :: L) G F (6 - 1) (by decide) List.mem_cons_self) (fun _ => rfl)
  (fun pe xs c W => pe = none ∧ c = ⟨[(b6, [.slice none 0 0])], [], []⟩ ∧ Kb wb.heap.size wb W) (fun _ _ _ _ _ => False) ?hJ (fun _ _ _ _ _ _ h => h.elim) ⟨rfl, rfl, HW2.out.kb⟩ ?h0 ?assign ?body ?done ?stop
 case h0 =>
  show Wc w0 w2 ((bS, [.pointer none]) :: (L ++ [(b6, [.slice none 0 0])])) (G ++ []) (F ++ [])
  rw [List.append_nil, List.append_nil]
  exact ((HW2.out.sub (L' := (b6, [.slice none 0 0]) :: (bS, [.pointer none]) :: L) (.cons_cons _ (.cons_cons _ (.cons _ (List.Sublist.refl _)))) (fun f hf => hf)).perm ((List.Perm.swap _ _ _).trans ((List.perm_append_comm (l₁ := [(b6, [.slice none 0 0])]) (l₂ := L)).cons _)) (List.Perm.refl _)).toWc
 case hJ =>
  rintro pe xs c X Y ⟨h1, h2, h3⟩ hb
  exact ⟨h1, h2, h3.trans (hb.mono hbw)⟩
 case assign =>
  intro lr pre x φ c W1 K hpre
  exact hpre.elim
 case body =>
  intro lr pre x φ c a' W1 hpre
  exact hpre.elim
 case stop =>
  rintro D cd pre φ c W1 hD hfix
  exact hfix.elim
 case done =>
  rintro D xs φ c W1 hD ⟨rfl, rfl⟩ ⟨-, rfl, hkb⟩ hat hK hsz
  have HF := Lib.hid (Wk.start hat.flip)
  have c6 := Kn.own1 (HF.out.boxi 0 rfl)
  clear hat
  go_wp2_with fail
  refine marks_ret1 (v := .slice none 0 0) (D := D) hK (by kernel_rfl) rfl ?_
  have hw := HF.out.toWc.putObj (.deferred none) hK rfl (Nat.le_trans HW2.out.only.size hD)
  simp only [List.append_nil, List.nil_append] at hw
  exact ⟨rfl, hw.sub (L' := L) (.cons _ (.cons _ (List.Sublist.refl _))) (fun f hf => hf), hkb.trans (kb_putObj _ _ (Nat.le_trans hbw hD))⟩
end Go.Proofs.YtgcfdjcpcclcjaaGreat
namespace Go.Proofs.YtgcfdjcpcclcjaaGreat
open Go Go.RowKit Go.Kn
set_option maxRecDepth 100000 in
set_option maxHeartbeats 4000000 in
theorem desk14_any (w0 w : World) (cf : Cf) (c : Fr3) (h : Wc w0 w c.L c.G c.F) (hc : cf.Ok) : Calls Tryz.prog 54 #[.agg #[.int .i64 cf.b, .int .i64 cf.s, .int .i64 cf.l]] w (DeskSays w0 cf c) := by
 have H := Lib.hid (h.newB #[.int .i64 cf.b, .int .i64 cf.s, .int .i64 cf.l] 25 rfl)
 obtain ⟨g1, g2, g3⟩ := Cf.sec cf hc 0 (by decide) (by have := hc.2.1; omega)
 have hl := hc.2.2
 have HC := Lib.hid hc
 obtain ⟨n, hn⟩ : ∃ n : Nat, cf.sectors.toNat = n := ⟨_, rfl⟩
 have hsn : cf.sectors = (n : Int) := by omega
 have HN := Lib.hid hn
 have HSN := Lib.hid hsn
 have hn1 : 1 ≤ n ∧ n ≤ 4096 := by omega
 obtain ⟨hn1, hn2⟩ := hn1
 clear h hc hn hsn g1 g2 g3
 go_enter Tryz.func54, Tryz.ntmps54
 go_wp2_with fail
 refine (geom_new_any cf.b cf.s cf.l _ HC.out).mono ?_
 rintro en w1 ⟨gb, rfl, hgb, hgeo, hO⟩
 have hfc : Fc w1 (fun k => k < (w.alloc (.cells #[.int .i64 cf.b, .int .i64 cf.s, .int .i64 cf.l] 25)).heap.size) (fun W => GeoAt W gb cf.b cf.s cf.l) := fc_geo hgeo (by omega)
 have HW := Lib.hid (H.out.addFc hO hfc)
 clear hgb hgeo hO hfc H
 generalize w.heap.size = f1 at *
 have b1 := HW.out.boxi 0 rfl
 obtain ⟨e0, e1, e2⟩ := Kn.own3 b1
 clear b1
 go_wp2_with fail
 refine (ref_sectors_any cf _ HC.out).mono ?_
 rintro en w2 ⟨rfl, hO⟩
 rw [HSN.out]
 have HW2 := Lib.hid (HW.out.keep0 hO)
 clear hO HW e0 e1 e2
 go_wp2_with fail
 refine (kit_two_any w0 w2 n ⟨(f1, [.int .i64 cf.b, .int .i64 cf.s, .int .i64 cf.l]) :: c.L, c.G, (fun W => GeoAt W gb cf.b cf.s cf.l) :: c.F⟩ HW2.out hn1 hn2).mono ?_
 rintro en w3 ⟨p, r, rfl, hpn, hrn, hd⟩
 have HD := Lib.hid hd.ldrop
 have HPN := Lib.hid hpn
 clear hd HW2 hpn hrn
 go_wp2_with fail
 refine bodyPost_ret (v := .tuple #[.pointer (some ⟨p.D, 0, none⟩), .pointer (some ⟨r.M, 0, none⟩), .pointer (some ⟨gb, 0, none⟩), .bool true]) (by kernel_rfl) rfl ⟨p, r, gb, rfl, ?_⟩
 rw [HN.out]
 exact HD.out
section
variable {w0 w : World} {p : PD} {r : RD} {d e : Dk} {L : List (Nat × List Value)} {G : List Gs} {F : List (World → Prop)} {C gb : Nat} {q en : Ps} {er : Int}
theorem duo_chnew (h : Duo w0 w p r d e ⟨L, G, F⟩) (gb : Nat) (q : Ps) :
  Calls Tryz.prog 56 #[.pointer (some ⟨p.D, 0, none⟩), .pointer (some ⟨gb, 0, none⟩), .agg #[.int .i64 q.s, .int .i64 q.o, .int .i64 q.l, .int .i64 q.p, .int .i64 q.m]] w fun en w' => ∃ C, en = .returned (.pointer (some ⟨C, 0, none⟩)) ∧ Duo w0 w' p r d e ⟨(C, CB p.D gb q q 0) :: L, G, F⟩ := by
 obtain ⟨L0, G0, F0, hw, -, back⟩ := h.dk
 refine (chain_new_any w0 w p.D gb q _ _ _ (Wk.start hw)).mono ?_
 rintro en w1 ⟨C, rfl, hw1⟩
 exact ⟨C, rfl, back w1 ⟨(C, CB p.D gb q q 0) :: L, G, F⟩ hw1.toWc⟩
theorem duo_chend (h : Duo w0 w p r d e ⟨L, G, F⟩) (hC : (C, CB p.D gb q en er) ∈ L) :
  Calls Tryz.prog 58 #[.pointer (some ⟨C, 0, none⟩)] w fun e' w' => e' = .returned (.agg #[.int .i64 en.s, .int .i64 en.o, .int .i64 en.l, .int .i64 en.p, .int .i64 en.m]) ∧ Only [] w w' := chain_end_any w C p.D gb q en er (h.box hC)
theorem duo_cherr (h : Duo w0 w p r d e ⟨L, G, F⟩) (hC : (C, CB p.D gb q en er) ∈ L) :
  Calls Tryz.prog 59 #[.pointer (some ⟨C, 0, none⟩)] w fun e' w' => e' = .returned (.int .i64 er) ∧ w = w' := chain_err_any w C p.D gb q en er (h.box hC)
def DWk (w0 : World) (p : PD) (r : RD) (d e : Dk) (C gb : Nat) (q : Ps) (L : List (Nat × List Value)) (G : List Gs) (F : List (World → Prop)) (x : List (Ps × Rc) × Ps × Int) (en : Ending) (w' : World) : Prop :=
 ∃ (xs : List Fnd) (A : Option Addr) (c : Nat) (fs : List (World → Prop)), en = .returned (.slice A xs.length c) ∧ xs.map Fnd.pr = x.1 ∧ (∀ y ∈ xs, y.fct ∈ fs) ∧
  Duo w0 w' p r d e ⟨(C, CB p.D gb q x.2.1 x.2.2) :: L, ⟨118, 10, .slice A xs.length c, xs.length, rfndV xs⟩ :: G, fs ++ F⟩
theorem duo_walk14 {cf : Cf} (h : Duo w0 w p r d e ⟨(C, CB p.D gb q en er) :: L, G, F⟩) (hg : (fun W => GeoAt W gb cf.b cf.s cf.l) ∈ F) (hc : cf.Ok) (most : Nat) (hm : (chainR d cf q).1.length ≤ most) (hmm : most ≤ 1000) :
  Calls Tryz.prog 57 #[.pointer (some ⟨C, 0, none⟩), .int .i64 (most : Int)] w (DWk w0 p r d e C gb q L G F (chainR d cf q)) := by
 obtain ⟨L0, G0, F0, hw, hd, back⟩ := h.dk
 refine (walk14_any w0 w C gb p d cf q en er _ (L ++ L0) (G ++ G0) (F ++ F0) most (Wk.start hw) (hd.mono (fun x hx => List.mem_append_right _ hx)) (List.mem_append_left _ hg) hc (chEnds_some_k d cf q) hm hmm).mono ?_
 rintro en w1 ⟨xs, A, c, fs, rfl, hxs, hfs, hw1⟩
 exact ⟨xs, A, c, fs, rfl, hxs, hfs, back w1 ⟨_ :: L, _ :: G, fs ++ F⟩ (by have := hw1.toWc; rw [← List.append_assoc] at this; exact this)⟩
theorem duo_walk14_nil {c : Fr3} (h : Duo w0 w p r d e c) (most : Nat) (hmm : most ≤ 1000) : Calls Tryz.prog 57 #[.pointer none, .int .i64 (most : Int)] w fun en w' => en = .returned (.slice none 0 0) ∧ Duo w0 w' p r d e c := by
 obtain ⟨L0, G0, F0, hw, back⟩ := h.fr
 refine (walk14_nil w0 w _ _ _ most (Wk.start hw) hmm).mono ?_
 rintro en w1 ⟨rfl, h1⟩
 exact ⟨rfl, back w1 c h1.toWc⟩
end
end Go.Proofs.YtgcfdjcpcclcjaaGreat
