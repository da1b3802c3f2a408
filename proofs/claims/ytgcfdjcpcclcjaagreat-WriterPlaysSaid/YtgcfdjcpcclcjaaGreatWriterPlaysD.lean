/- WkP, ScnA, ItemD, KitB, KitC, RecF, RecG, KitE, ScnC, ScnD, ScnE, ScnF, ScnH, ScnJ, RecH, ScnK, ScnL, GeoC, ScnN, LogP, LogQ, ScnO, ScnQ, LogR, Awake13, Frame, FrameI, FrameK, StpP, BrkQ, MntP, ScpP, TbP, ChnP, RingP, WrP, UsA, WrA, KitF: joined by pack.py, without what the claim does not use. -/
import Derived.Test.YtgcfdjcpcclcjaaGreatWriterPlaysC
set_option linter.unusedVariables false
set_option linter.unusedSimpArgs false
namespace Go.Kn
open Go Go.RowKit
/-- Wc; since w1 the non-cells lie as they lay -/
structure Wk (w0 w1 w : World) (L : List (Nat × List Value)) (G : List Gs) (F : List (World → Prop)) : Prop extends Wc w0 w L G F where
 kb : Kb w1.heap.size w1 w
section
variable {w0 w1 w w' : World} {L L' : List (Nat × List Value)} {G G' : List Gs} {F F' : List (World → Prop)}
theorem Wk.hs (h : Wk w0 w1 w L G F) : w1.heap.size ≤ w.heap.size := h.kb.size
theorem Wk.start (h : Wc w0 w L G F) : Wk w0 w w L G F := ⟨h, Kb.refl _ _⟩
theorem Wk.to (h : Wk w0 w1 w L G F) (g : Wc w0 w' L' G' F') (hk : Kb w1.heap.size w w') : Wk w0 w1 w' L' G' F' := ⟨g, h.kb.trans hk⟩
theorem Wk.same (h : Wk w0 w1 w L G F) (g : Wc w0 w L' G' F') : Wk w0 w1 w L' G' F' := ⟨g, h.kb⟩
theorem kb_only0 {B : Nat} (hO : Only [] w w') : Kb B w w' := Kb.of_only hO (by simp)
theorem Wk.keep0 (h : Wk w0 w1 w L G F) (hO : Only [] w w') : Wk w0 w1 w' L G F := h.to (h.toWc.keep0 hO) (kb_only0 hO)
theorem Wk.drew (h : Wk w0 w1 w L G F) : Wk w0 w1 w.drew L G F := h.keep0 (Only.refl _ _).drew
theorem Wk.drewN (h : Wk w0 w1 w L G F) (n : Nat) : Wk w0 w1 (w.drewN n) L G F := h.keep0 ((Only.refl _ _).drewN n)
theorem Wk.alloc (h : Wk w0 w1 w L G F) (o : Obj) : Wk w0 w1 (w.alloc o) L G F := h.keep0 ((Only.refl _ _).alloc o)
theorem Wk.newB (h : Wk w0 w1 w L G F) (cs : Array Value) (t : TypeId) {b : Nat} (hb : w.heap.size = b) : Wk w0 w1 (w.alloc (.cells cs t)) ((b, cs.toList) :: L) G F := h.to (h.toWc.newB cs t hb) (kb_only0 ((Only.refl _ _).alloc _))
theorem Wk.call1 (h : Wk w0 w1 w L G F) (i : Nat) {p : Nat} {cs cs' : List Value} (hi : L[i]? = some (p, cs)) (ho : Own w' p cs') (hO : Only [p] w w') : Wk w0 w1 w' (L.set i (p, cs')) G F :=
 h.to (h.toWc.call1 i hi ho hO) (Kb.of_only hO (by
  intro k hk o hq
  rw [List.mem_singleton] at hk
  subst hk
  exact (h.toWc.boxi i hi).isCells o hq))
theorem Wk.put (h : Wk w0 w1 w L G F) (i : Nat) {p : Nat} {cs : List Value} (hi : L[i]? = some (p, cs)) (j : Nat) (u : Value) : Wk w0 w1 (w.setCell ⟨p, j, none⟩ u) (L.set i (p, cs.set j u)) G F :=
 h.to (h.toWc.put i hi j u) (Kb.of_only ((Only.refl [p] w).set (.inl (by simp)) u) (by
  intro k hk o hq
  rw [List.mem_singleton] at hk
  subst hk
  exact (h.toWc.boxi i hi).isCells o hq))
theorem Wk.gapp (h : Wk w0 w1 w L G F) (i : Nat) {x : Gs} (hi : G[i]? = some x) {v' : Value} {n' : Nat} {ys : List Value} (ho : w'.ownsRow w0.heap.size x.e x.sz v' n' ys) (hg : w.grownBy w' x.v.ownBlock) (hat : v'.ownBlock = x.v.ownBlock ∨ v'.ownBlock = some w.heap.size) :
  Wk w0 w1 w' L (G.set i ⟨x.e, x.sz, v', n', ys⟩) F :=
 h.to (h.toWc.gapp i hi ho hg hat) ⟨hg.size, by
  intro k o _ hk hc
  have hlt := lt_of_obj hk
  by_cases hm : x.v.ownBlock = some k
  ·have := h.toWc.cellsBlock (.inr ⟨x, List.mem_of_getElem? hi, hm⟩) o hk
   rw [this] at hc
   cases hc
  ·rw [← hk]
   exact hg.block k hlt (fun e => hm e.symm)⟩
theorem Wk.addFc (h : Wk w0 w1 w L G F) (hO : Only [] w w') {f : World → Prop} (hf : Fc w' (fun k => k < w.heap.size) f) : Wk w0 w1 w' L G (f :: F) := h.to (h.toWc.addFc hO hf) (kb_only0 hO)
theorem Wk.sub (h : Wk w0 w1 w L G F) {L' : List (Nat × List Value)} {F' : List (World → Prop)} (hL : L'.Sublist L) (hF : ∀ f ∈ F', f ∈ F) : Wk w0 w1 w L' G F' := h.same (h.toWc.sub hL hF)
theorem Wk.perm (h : Wk w0 w1 w L G F) (hL : L.Perm L') (hG : G.Perm G') : Wk w0 w1 w L' G' F := h.same (h.toWc.perm hL hG)
theorem Wk.subG (h : Wk w0 w1 w L G F) (hG : G'.Sublist G) : Wk w0 w1 w L G' F := h.same (h.toWc.subG hG)
theorem Wk.subF (h : Wk w0 w1 w L G F) {F' : List (World → Prop)} (hF : ∀ f ∈ F', f ∈ F) : Wk w0 w1 w L G F' := h.same (h.toWc.subF hF)
theorem Wk.gdrop {g : Gs} (h : Wk w0 w1 w L (g :: G) F) : Wk w0 w1 w L G F := h.same h.toWc.gdrop
theorem Wk.ldrop {x : Nat × List Value} (h : Wk w0 w1 w (x :: L) G F) : Wk w0 w1 w L G F := h.same h.toWc.ldrop
theorem Wk.fdrop {f : World → Prop} (h : Wk w0 w1 w L G (f :: F)) : Wk w0 w1 w L G F := h.same h.toWc.fdrop
end
end Go.Kn
namespace Go.Proofs.YtgcfdjcpcclcjaaGreat
open Go Go.RowKit Go.Kn
structure DskRd (w : World) (p : PD) (d : Dk) : Prop where
 ok : d.Ok
 N : d.safe.length = p.N
 D_ : ∃ v, Kn.Own w p.D (p.box v d)
 n_ : Kn.Own w p.n (flat d.now)
 f_ : Kn.Own w p.f (bls d.faults)
/-- the disk is among some boxes -/
structure DkIn (p : PD) (d : Dk) (L : List (Nat × List Value)) : Prop where
 ok : d.Ok
 N : d.safe.length = p.N
 D_ : ∃ v, (p.D, p.box v d) ∈ L
 n_ : (p.n, flat d.now) ∈ L
 f_ : (p.f, bls d.faults) ∈ L
theorem DkIn.rd {w : World} {p : PD} {d : Dk} {L L' : List (Nat × List Value)} (h : DkIn p d L) (hw : ∀ x ∈ L', Kn.Own w x.1 x.2) (hL : ∀ x ∈ L, x ∈ L') : DskRd w p d :=
 ⟨h.ok, h.N, by obtain ⟨v, hv⟩ := h.D_; exact ⟨v, hw _ (hL _ hv)⟩, hw _ (hL _ h.n_), hw _ (hL _ h.f_)⟩
theorem DkIn.mono {p : PD} {d : Dk} {L L' : List (Nat × List Value)} (h : DkIn p d L) (hL : ∀ x ∈ L, x ∈ L') : DkIn p d L' := ⟨h.ok, h.N, by obtain ⟨v, hv⟩ := h.D_; exact ⟨v, hL _ hv⟩, hL _ h.n_, hL _ h.f_⟩
/-- the cells of a Scan -/
def SB (D gb : Nat) (p : Ps) (own : Bool) (e : Ps) (er : Int) : List Value :=
 [.pointer (some ⟨D, 0, none⟩), .pointer (some ⟨gb, 0, none⟩), .int .i64 p.s, .int .i64 p.o, .int .i64 p.l, .int .i64 p.p, .int .i64 p.m, .bool own, .int .i64 e.s, .int .i64 e.o, .int .i64 e.l, .int .i64 e.p, .int .i64 e.m, .int .i64 er]
end Go.Proofs.YtgcfdjcpcclcjaaGreat
namespace Go.Kn
open Go Go.RowKit
instance : DecidableEq It := fun a b => by
 obtain ⟨a1, a2, a3, a4⟩ := a
 obtain ⟨b1, b2, b3, b4⟩ := b
 exact decidable_of_iff (a1 = b1 ∧ a2 = b2 ∧ a3 = b3 ∧ a4 = b4) (by simp)
end Go.Kn
namespace Go.Proofs.YtgcfdjcpcclcjaaGreat
open Go Go.RowKit Go.Kn
@[go_sem] theorem eq_item (a b c d e f g h : Int) (w : World) : (Op.equalIn 10000 63 (.agg #[.int .i64 a, .int .i64 b, .int .i64 c, .int .i64 d]) (.agg #[.int .i64 e, .int .i64 f, .int .i64 g, .int .i64 h])).run Tryz.prog w = .ok (a == e && b == f && c == g && d == h) w := by
 have u3 := Tryz.underlying3
 have a3 := Tryz.isAgg3
 have z3 := Tryz.sizeOf3
 have hS : Tryz.prog.underlying 63 = some (.struct (Tryz.prog.fieldsOf 63)) := by kernel_rfl
 rw [show (10000 : Nat) = 9999 + 1 from rfl, run_equalIn_agg w 9999 63 _ _ hS Tryz.stoodInHeld63]
 simp only [Program.fieldsOf, Tryz.underlying63]
 go_simp
 by_cases h1 : a = e <;> by_cases h2 : b = f <;> by_cases h3 : c = g <;> by_cases h4 : d = h <;> simp [h1, h2, h3, h4]
end Go.Proofs.YtgcfdjcpcclcjaaGreat
namespace Go.Kn
open Go Go.RowKit
def kAt (x i : Nat) : UInt8 := UInt8.ofNat (x + 3 * i)
def kBlk (x : Nat) : List UInt8 := (List.range 64).map (kAt x)
def kBlkP (x t : Nat) : List UInt8 := (List.range 64).map fun k => if k < t then kAt x k else 0
@[simp] theorem kBlkP_length (x t : Nat) : (kBlkP x t).length = 64 := by simp [kBlkP]
@[simp] theorem kBlk_length (x : Nat) : (kBlk x).length = 64 := by simp [kBlk]
/-- an item of kind z, the i-th -/
def kIt (z f : Int) (i : Nat) : It :=
 if z % 6 = 1 ∨ z % 6 = 5 then ⟨1 + z % 6, (f % 1000 + i) % 8, 1 + (f % 1000 + i) % 3, 0⟩
 else if z % 6 = 2 then ⟨3, 0, 0, 1 + (f % 1000 + i)⟩
 else if z % 6 = 3 then ⟨4, (f % 1000 + i) % 8, 0, 20 + (f % 1000 + i)⟩
 else ⟨1 + z % 6, (f % 1000 + i) % 8, 0, 0⟩
def kBl (z f : Int) (i : Nat) : List (List UInt8) := if z % 6 = 0 ∨ z % 6 = 3 ∨ z % 6 = 4 then [kBlk (f % 1000 + i).toNat] else []
def kIts (zs : List Int) (f : Int) : Nat → List It
 | 0 => []
 | i + 1 => kIts zs f i ++ [kIt (zs.getD i 0) f i]
def kBls (zs : List Int) (f : Int) : Nat → List (List UInt8)
 | 0 => []
 | i + 1 => kBls zs f i ++ kBl (zs.getD i 0) f i
def kItems (zs : List Int) (f : Int) : List It := if zs.length = 0 then [⟨3, 0, 0, 1⟩] else kIts zs f (min zs.length 6)
def kBlocks (zs : List Int) (f : Int) : List (List UInt8) := kBls zs f (min zs.length 6)
theorem six (z : Int) : z % 6 = 0 ∨ z % 6 = 1 ∨ z % 6 = 2 ∨ z % 6 = 3 ∨ z % 6 = 4 ∨ z % 6 = 5 := by omega
end Go.Kn
namespace Go.Kn
open Go Go.RowKit
/-- a record as it is laid on a disk -/
structure KR where
 kinds : List Int
 fill : Int
 skew : Int
 twist : Int
 up : Int
def kMount (p : Ps) (r : KR) : Int := max (p.m + (r.up + 3) % 7 - 3) 1
def kLsn (p : Ps) (r : KR) : Int := max (p.l + (r.skew + 2) % 5 - 2) 1
def kPrev (p : Ps) (r : KR) : Int := (p.p + r.twist % 3) % 4294967296
def kMade (p : Ps) (r : KR) : Rc := ⟨kMount p r, kLsn p r, kPrev p r, kItems r.kinds r.fill, kBlocks r.kinds r.fill⟩
structure KR.Wf (r : KR) : Prop where
 kinds : ∀ z ∈ r.kinds, (Lit.int .i64 z).wf = true
 fill : (Lit.int .i64 r.fill).wf = true
 twist : (Lit.int .i64 r.twist).wf = true
 skew : -1000 ≤ r.skew ∧ r.skew ≤ 1000
 up : -1000 ≤ r.up ∧ r.up ≤ 1000
structure Ps.Wf (p : Ps) : Prop where
 m : -1000000000000 ≤ p.m ∧ p.m ≤ 1000000000000
 l : -1000000000000 ≤ p.l ∧ p.l ≤ 1000000000000
 p : -1000000000000 ≤ p.p ∧ p.p ≤ 1000000000000
end Go.Kn
namespace Go.Kn
open Go Go.RowKit
instance : DecidableEq Rc := fun a b => by
 rcases a with ⟨a1, a2, a3, a4, a5⟩
 rcases b with ⟨b1, b2, b3, b4, b5⟩
 rw [Rc.mk.injEq]
 exact inferInstance
end Go.Kn
namespace Go.Proofs.YtgcfdjcpcclcjaaGreat
open Go Go.RowKit Go.Kn
set_option maxRecDepth 100000 in
set_option maxHeartbeats 8000000 in
theorem ref_rec_may_no (m n p : Int) (A : Option Addr) (na ca : Nat) (B : Option Addr) (nb cb : Nat) (w : World) (ha : na ≤ ca) (hb : ca ≤ maxLen)
    (h : (decide (1 ≤ m ∧ m ≤ 2147483647) && (decide (1 ≤ n ∧ n ≤ 2147483647) && (decide (0 ≤ p ∧ p ≤ 4294967295) && decide (1 ≤ (na : Int) ∧ (na : Int) ≤ 6)))) = false) :
    Calls Tryz.prog 86 #[.agg #[.int .i64 m, .int .i64 n, .int .i64 p, .slice A na ca, .slice B nb cb]] w fun e w' => e = .returned (.bool false) ∧ Only [] w w' := by
  unfold maxLen at hb
  obtain ⟨b1, h1⟩ : ∃ b, decide (1 ≤ m ∧ m ≤ 2147483647) = b := ⟨_, rfl⟩
  obtain ⟨b2, h2⟩ : ∃ b, decide (1 ≤ n ∧ n ≤ 2147483647) = b := ⟨_, rfl⟩
  obtain ⟨b3, h3⟩ : ∃ b, decide (0 ≤ p ∧ p ≤ 4294967295) = b := ⟨_, rfl⟩
  obtain ⟨b4, h4⟩ : ∃ b, decide (1 ≤ (na : Int) ∧ (na : Int) ≤ 6) = b := ⟨_, rfl⟩
  rw [h1, h2, h3, h4] at h
  have H1 := Lib.hid h1
  have H2 := Lib.hid h2
  have H3 := Lib.hid h3
  have H4 := Lib.hid h4
  clear h1 h2 h3 h4
  cases b1 <;> cases b2 <;> cases b3 <;> cases b4 <;> first
    | (exact absurd h (by decide))
    | (clear h
       go_enter Tryz.func86, Tryz.ntmps86
       go_wp2_with (first | (go_at_call 99; refine (within_any _ _ _ _).mono ?_; rintro e w' ⟨rfl, rfl⟩; first | rw [H1.out] | rw [H2.out] | rw [H3.out] | rw [H4.out]))
       go_ret
       exact ⟨rfl, (Only.refl _ _).alloc _⟩)
set_option maxRecDepth 100000 in
set_option maxHeartbeats 8000000 in
theorem ref_rec_may_yes (m n p : Int) (A : Option Addr) (na ca : Nat) (its : List It) (B : Option Addr) (nb cb : Nat) (bl : List (List UInt8)) (w : World) (hi : Its w A na ca its) (hj : Blks w B nb cb bl)
  (h : rcHeadMay ⟨m, n, p, its, bl⟩ = true) :
  Calls Tryz.prog 86 #[.agg #[.int .i64 m, .int .i64 n, .int .i64 p, .slice A na ca, .slice B nb cb]] w fun e w' => e = .returned (.bool (rcMay ⟨m, n, p, its, bl⟩)) ∧ Only [] w w' := by
 have hlen := hi.len
 have hcm := hi.cm
 have hcl := hi.le
 have hln := hj.len
 have hdm := hj.cm
 have hdl := hj.le
 unfold maxLen at hcm hdm
 have h' := h
 unfold rcHeadMay at h'
 simp only [Bool.and_eq_true, decide_eq_true_eq] at h'
 have h1 : decide (1 ≤ m ∧ m ≤ 2147483647) = true := by simp; omega
 have h2 : decide (1 ≤ n ∧ n ≤ 2147483647) = true := by simp; omega
 have h3 : decide (0 ≤ p ∧ p ≤ 4294967295) = true := by simp; omega
 have h4 : decide (1 ≤ (na : Int) ∧ (na : Int) ≤ 6) = true := by simp; omega
 have hna : na ≤ 6 := by omega
 have HX := Lib.hid (And.intro h1 (And.intro h2 (And.intro h3 h4)))
 have HI := Lib.hid hi
 have HJ := Lib.hid hj
 have HL := Lib.hid hlen
 have HLB := Lib.hid hln
 have HH := Lib.hid h
 clear h1 h2 h3 h4 h' h hi hj hlen hln
 go_enter Tryz.func86, Tryz.ntmps86
 go_upto_region 3 with (first | (go_at_call 99; refine (within_any _ _ _ _).mono ?_; rintro e w' ⟨rfl, rfl⟩; first | rw [HX.out.1] | rw [HX.out.2.1] | rw [HX.out.2.2.1] | rw [HX.out.2.2.2]))
 have hO0 := (Only.refl [] w).alloc (.cells #[.int .i64 m, .int .i64 n, .int .i64 p, .slice A na ca, .slice B nb cb] 56)
 have hbx := Own.new w #[.int .i64 m, .int .i64 n, .int .i64 p, .slice A na ca, .slice B nb cb] 56
 have x3 := hbx.cell 3 (by simp)
 have x4 := hbx.cell 4 (by simp)
 simp only [List.getElem_cons_zero, List.getElem_cons_succ] at x3 x4
 generalize w.alloc (.cells #[.int .i64 m, .int .i64 n, .int .i64 p, .slice A na ca, .slice B nb cb] 56) = w1 at *
 have HO := Lib.hid hO0
 have X3 := Lib.hid x3
 have X4 := Lib.hid x4
 clear hO0 hbx x3 x4
 go_wp2_with fail
 go_loopg [3, 4] na (fun r ld i wr => ∃ j : Nat, j + r = na ∧ ld = .int .i64 (loads (its.take j) : Nat) ∧ i = .int .i64 j ∧ Only [] w1 wr ∧ (its.take j).all It.may = true)
 case atStart => exact ⟨0, by omega, by simp [loads], rfl, Only.refl _ _, by simp⟩
 obtain ⟨j, hj, rfl, rfl, hO, hal⟩ := hrel
 have HO1 := Lib.hid hO
 have HAL := Lib.hid hal
 have hld := loads_le (its.take j)
 rw [List.length_take] at hld
 have x3 := hO.cell X3.out (by simp)
 clear hO hal
 by_cases hlt : j < na
 ·have hjz : j < its.length := by rw [HL.out]; exact hlt
  obtain ⟨a, o, rfl, hc⟩ := HI.out.at_ (by omega)
  obtain ⟨q0, q1, q2, q3⟩ := hc j hjz
  have c0 := HO1.out.cell (HO.out.cell q0 (by simp)) (by simp)
  have c1 := HO1.out.cell (HO.out.cell q1 (by simp)) (by simp)
  have c2 := HO1.out.cell (HO.out.cell q2 (by simp)) (by simp)
  have c3 := HO1.out.cell (HO.out.cell q3 (by simp)) (by simp)
  have HIT : Hid (its[j] = ⟨its[j].k, its[j].b, its[j].c, its[j].v⟩) := Lib.hid rfl
  have HLT := Lib.hid (loads_take hjz)
  have hlt2 : (j : Int) < (na : Int) := by omega
  have hge : 0 ≤ (j : Int) := by omega
  have htn : ((j : Int)).toNat = j := by omega
  clear hc q0 q1 q2 q3
  cases hm : its[j].may
  ·have HM := Lib.hid hm
   clear hm
   generalize hik : its[j].k = ik at *
   generalize hib : its[j].b = ib at *
   generalize hic : its[j].c = ic at *
   generalize hiv : its[j].v = iv at *
   have HME : Hid (It.may ⟨ik, ib, ic, iv⟩ = false) := Lib.hid (by rw [← HIT.out]; exact HM.out)
   clear hik hib hic hiv
   go_wp2_with fail
   refine (ref_item_may_any ik ib ic iv _).mono ?_
   rintro e w2 ⟨rfl, hO2⟩
   rw [HME.out]
   go_wp2
   go_ret
   exact ⟨by rw [rcMay_its (r := ⟨m, n, p, its, bl⟩) hjz HM.out]; rfl, (HO.out.trans' HO1.out).trans' hO2⟩
  ·have HM := Lib.hid hm
   clear hm
   obtain ⟨q, hq⟩ : ∃ q, its[j].loaded = q := ⟨_, rfl⟩
   have HQ := Lib.hid hq
   clear hq
   generalize hik : its[j].k = ik at *
   generalize hib : its[j].b = ib at *
   generalize hic : its[j].c = ic at *
   generalize hiv : its[j].v = iv at *
   have HME : Hid (It.may ⟨ik, ib, ic, iv⟩ = true) := Lib.hid (by rw [← HIT.out]; exact HM.out)
   have HQE : Hid (It.loaded ⟨ik, ib, ic, iv⟩ = q) := Lib.hid (by rw [← HIT.out]; exact HQ.out)
   clear hik hib hic hiv
   go_wp2_with fail
   refine (ref_item_may_any ik ib ic iv _).mono ?_
   rintro e w2 ⟨rfl, hO2⟩
   rw [HME.out]
   have d0 := hO2.cell c0 (by simp)
   have d1 := hO2.cell c1 (by simp)
   have d2 := hO2.cell c2 (by simp)
   have d3 := hO2.cell c3 (by simp)
   have y3 := hO2.cell x3 (by simp)
   have HO2 := Lib.hid (HO1.out.trans' hO2)
   clear hO2 c0 c1 c2 c3 x3
   generalize hlv : loads (its.take j) = lv at *
   have hl9 : lv ≤ 6 := by omega
   cases q
   ·go_wp2_with fail
    refine (ref_item_loaded_any ik ib ic iv _).mono ?_
    rintro e w3 ⟨rfl, hO3⟩
    rw [HQE.out]
    have HO3 := Lib.hid (HO2.out.trans' hO3)
    clear hO3 d0 d1 d2 d3 y3
    go_wp2
    go_roundg (gk - 1)
    case measure => omega
    case rel => exact ⟨j + 1, by omega, by rw [HLT.out, HQ.out]; rfl, by go_num, HO3.out, all_take hjz HAL.out HM.out⟩
   ·go_wp2_with fail
    refine (ref_item_loaded_any ik ib ic iv _).mono ?_
    rintro e w3 ⟨rfl, hO3⟩
    rw [HQE.out]
    have HO3 := Lib.hid (HO2.out.trans' hO3)
    clear hO3 d0 d1 d2 d3 y3
    go_wp2
    go_roundg (gk - 1)
    case measure => omega
    case rel => exact ⟨j + 1, by omega, by rw [HLT.out, HQ.out, if_pos rfl]; go_num, by go_num, HO3.out, all_take hjz HAL.out HM.out⟩
 ·obtain rfl : j = na := by omega
  have hfull : its.take j = its := List.take_of_length_le (by rw [HL.out]; omega)
  have hal := HAL.out
  rw [hfull] at hal hld ⊢
  have HAL' := Lib.hid hal
  have HY := Lib.hid (rcMay_yes (r := ⟨m, n, p, its, bl⟩) HH.out HAL'.out)
  have x4 := HO1.out.cell X4.out (by simp)
  have hlb := HLB.out
  generalize hlv : loads its = lv at *
  have hl9 : lv ≤ 6 := by omega
  have hd : decide (bl.length = lv) = decide (nb = lv) := by rw [hlb]
  have HD := Lib.hid hd
  clear hal hfull hlv hd hlb
  by_cases hnl : nb = lv
  ·have hn1 : ((lv : Int) != (nb : Int)) = false := by simp; omega
   subst hnl
   have HOA := Lib.hid (HO.out.trans' HO1.out)
   clear hn1
   go_wp2_with fail
   generalize hwq : wr = wq at *
   clear hwq
   go_loopg [5] nb (fun r i wr => ∃ t : Nat, t + r = nb ∧ i = .int .i64 t ∧ wq = wr ∧ full64 (bl.take t) = true)
   case atStart => exact ⟨0, by omega, rfl, rfl, by simp [full64]⟩
   obtain ⟨t, ht, rfl, rfl, hal⟩ := hrel
   have HFT := Lib.hid hal
   clear hal
   by_cases hlt2 : t < nb
   ·have hjz : t < bl.length := by rw [HLB.out]; exact hlt2
    obtain ⟨a, o, B', m', d', rfl, c0, hb⟩ := ((HJ.out.keep0 HO.out).keep0 HO1.out).at_ t hlt2
    have hbl := hb.len
    have hbm := hb.le
    have hbd := hb.cm
    rw [bvs_length] at hbl
    unfold maxLen at hbd
    have hlt3 : (t : Int) < (nb : Int) := by omega
    have hge : 0 ≤ (t : Int) := by omega
    have htn : ((t : Int)).toNat = t := by omega
    cases hm : is64 bl[t]
    ·have HM := Lib.hid hm
     have h64 : ((m' : Int) != 64) = true := by unfold is64 at hm; simp at hm ⊢; omega
     clear hm hb hbl
     go_wp2
     go_ret
     exact ⟨by rw [HY.out, full_no hjz HM.out, Bool.and_false]; rfl, HOA.out⟩
    ·have HM := Lib.hid hm
     have h64 : ((m' : Int) != 64) = false := by unfold is64 at hm; simp at hm ⊢; omega
     clear hm hb hbl
     go_wp2
     go_roundg (gk - 1)
     case measure => omega
     case rel => exact ⟨t + 1, by omega, by go_num, rfl, full_take hjz HFT.out HM.out⟩
   ·obtain rfl : t = nb := by omega
    have hfull : bl.take t = bl := List.take_of_length_le (by rw [HLB.out]; omega)
    have hal := HFT.out
    rw [hfull] at hal
    have HF := Lib.hid hal
    clear hal hfull
    go_wp2
    go_ret
    exact ⟨by rw [HY.out, HD.out, HF.out]; simp, HOA.out⟩
  ·have hn1 : ((lv : Int) != (nb : Int)) = true := by simp; omega
   have HNL := Lib.hid hnl
   clear hnl
   go_wp2_with fail
   go_ret
   refine ⟨?_, HO.out.trans' HO1.out⟩
   rw [HY.out, HD.out, decide_eq_false HNL.out]
   simp
theorem ref_rec_may_any (m n p : Int) (A : Option Addr) (na ca : Nat) (its : List It) (B : Option Addr) (nb cb : Nat) (bl : List (List UInt8)) (w : World) (hi : Its w A na ca its) (hj : Blks w B nb cb bl) :
  Calls Tryz.prog 86 #[.agg #[.int .i64 m, .int .i64 n, .int .i64 p, .slice A na ca, .slice B nb cb]] w fun e w' => e = .returned (.bool (rcMay ⟨m, n, p, its, bl⟩)) ∧ Only [] w w' := by
 cases h : rcHeadMay ⟨m, n, p, its, bl⟩ with
 | true => exact ref_rec_may_yes m n p A na ca its B nb cb bl w hi hj h
 | false =>
  rw [rcMay_head h]
  refine ref_rec_may_no m n p A na ca B nb cb w hi.le hi.cm ?_
  have hl := hi.len
  have e : decide (1 ≤ its.length ∧ its.length ≤ 6) = decide (1 ≤ (na : Int) ∧ (na : Int) ≤ 6) := by rw [hl]; congr 1; simp only [eq_iff_iff]; omega
  rw [← e]
  exact h
end Go.Proofs.YtgcfdjcpcclcjaaGreat
namespace Go.Kn
open Go Go.RowKit
theorem csum_more (a b : List UInt8) : 4294967295 - cadd (4294967295 - csum a) b = csum (a ++ b) := by
 have h := cadd_lt (x := 4294967295) (by decide) a
 unfold csum
 rw [show 4294967295 - (4294967295 - cadd 4294967295 a) = cadd 4294967295 a from by omega, cadd_append]
/-- a row of so many sectors, a summary laid but for its sum -/
theorem rc_row_t {r : Rc} (h : r.its.length ≤ 6) (k : Nat) : lay (List.replicate (64 * (1 + k)) 0) 0 (cat (rcFs r) ++ itsB r.its) = rcHead r ++ List.replicate (4 + 64 * k) 0 := by
 unfold rcHead lay
 have hl : (cat (rcFs r) ++ itsB r.its).length = 16 + 7 * r.its.length := by rw [List.length_append, rcFs_len, itsB_length]
 rw [hl, List.take_zero, List.nil_append, List.drop_replicate, List.append_assoc, List.append_assoc, List.append_assoc, List.replicate_append_replicate]
 congr 3
 omega
theorem rc_blocks {h60 : List UInt8} (h : h60.length = 60) (bl : List (List UInt8)) (hf : full64 bl = true) : lay (h60 ++ List.replicate (4 + 64 * bl.length) 0) 64 bl.flatten = h60 ++ (List.replicate 4 0 ++ bl.flatten) := by
 have hl := flat64 hf
 unfold lay
 have e1 : (h60 ++ List.replicate (4 + 64 * bl.length) (0 : UInt8)).take 64 = h60 ++ List.replicate 4 0 := by
  rw [List.take_append, h, List.take_of_length_le (by omega), List.take_replicate]
  congr 2
  omega
 rw [e1, List.drop_of_length_le (by rw [List.length_append, h, List.length_replicate, hl]; omega), List.append_nil, List.append_assoc]
theorem rc_sum_t {r : Rc} (h : r.its.length ≤ 6) (s : Nat) (x : List UInt8) : lay (rcHead r ++ (List.replicate 4 0 ++ x)) 60 (le 4 s) = rcHead r ++ (le 4 s ++ x) := by
 have hl := rcHead_length h
 unfold lay
 have e : rcHead r ++ (List.replicate 4 0 ++ x) = (rcHead r ++ List.replicate 4 0) ++ x := by rw [List.append_assoc]
 rw [List.take_left' hl, le_length, e, List.drop_left' (by rw [List.length_append, hl, List.length_replicate])]
end Go.Kn
namespace Go.Proofs.YtgcfdjcpcclcjaaGreat
open Go Go.RowKit Go.Kn
set_option maxRecDepth 100000 in
set_option maxHeartbeats 16000000 in
theorem ref_rec_enc_any (rm rn rp : Int) (A : Option Addr) (na ca : Nat) (its : List It) (B : Option Addr) (nb cb : Nat) (bl : List (List UInt8)) (w : World) (hi : Its w A na ca its) (hj : Blks w B nb cb bl) :
  Calls Tryz.prog 26 #[.agg #[.int .i64 rm, .int .i64 rn, .int .i64 rp, .slice A na ca, .slice B nb cb]] w (EncRc w (encRc ⟨rm, rn, rp, its, bl⟩) 1) := by
 have hlen := hi.len
 have hln := hj.len
 have hdl := hj.le
 have hdm := hj.cm
 have hcl := hi.le
 have hcm := hi.cm
 unfold maxLen at hcm hdm
 have HI := Lib.hid hi
 have HJ := Lib.hid hj
 have HL := Lib.hid hlen
 have HLB := Lib.hid hln
 have hO0 := (Only.refl [] w).alloc (.cells #[.int .i64 rm, .int .i64 rn, .int .i64 rp, .slice A na ca, .slice B nb cb] 56)
 have hbx := Own.new w #[.int .i64 rm, .int .i64 rn, .int .i64 rp, .slice A na ca, .slice B nb cb] 56
 obtain ⟨x0, x1, x2, x3, x4⟩ := Kn.own5 hbx
 clear hi hj hlen hln
 cases hm : rcMay ⟨rm, rn, rp, its, bl⟩
 ·have HM := Lib.hid hm
  clear hm
  go_enter Tryz.func26, Tryz.ntmps26
  go_upto_region 1 with fail
  generalize w.alloc (.cells #[.int .i64 rm, .int .i64 rn, .int .i64 rp, .slice A na ca, .slice B nb cb] 56) = w0 at *
  have HO0 := Lib.hid hO0
  clear hO0 hbx
  go_wp2_with fail
  refine (ref_rec_may_any rm rn rp A na ca its B nb cb bl _ (by exact HI.out.keep0 HO0.out) (by exact HJ.out.keep0 HO0.out)).mono ?_
  rintro e w1 ⟨rfl, hO1⟩
  rw [HM.out]
  have HO1 := Lib.hid (HO0.out.trans' hO1)
  clear hO1 x0 x1 x2 x3 x4
  go_wp2
  go_ret3
  exact EncRc.no (by unfold encRc; rw [HM.out]; rfl) HO1.out
 ·obtain ⟨⟨hm1, hm2, hm3, hm4, hm5⟩, hal, hbn, hbf⟩ := rcMay_iff.1 hm
  have hld := loads_le its
  have hna : na ≤ 6 := by rw [← HL.out]; exact hm5
  have hnb : nb ≤ 6 := by
   have h1 := HLB.out
   simp only at hbn hm5
   omega
  have HF1 : Hid (Fit 4 [rm, rn, rp]) := Lib.hid (by simp only [fit_cons, fit_nil, Int.reducePow, and_true] at *; omega)
  have HF2 : Hid (Fit 1 [(na : Int), (nb : Int)]) := Lib.hid (by simp only [fit_cons, fit_nil, Int.reducePow, and_true]; omega)
  have HE : Hid (encItems its = some (itsB its)) := Lib.hid (by unfold encItems; rw [if_pos ⟨hm5, hal⟩])
  have HM := Lib.hid hm
  have HM5 := Lib.hid hm5
  have HBF := Lib.hid hbf
  obtain ⟨L, hL⟩ : ∃ L, (itsB its).length = L := ⟨_, rfl⟩
  have hL7 : L = 7 * na := by rw [← hL, itsB_length, HL.out]
  have hL42 : L ≤ 42 := by omega
  have HLL := Lib.hid hL
  obtain ⟨T, hT⟩ : ∃ T, T = 64 * (1 + nb) := ⟨_, rfl⟩
  have HT := Lib.hid hT
  have hT1 : 64 ≤ T := by omega
  have hT2 : T ≤ 448 := by omega
  have hTi : (1 + (nb : Int)) * 64 = (T : Int) := by omega
  have hw0 : IntKind.i64.wrap (1 + (nb : Int)) = 1 + (nb : Int) := IntWalk.i64_in _ (by omega)
  have hw1 : IntKind.i64.wrap ((1 + (nb : Int)) * 64) = (T : Int) := by rw [hTi]; exact IntWalk.i64_in _ (by omega)
  have HTI := Lib.hid hTi
  clear hm hal hbn hbf hm1 hm2 hm3 hm4 hm5 hL hL7 hT hTi
  go_enter Tryz.func26, Tryz.ntmps26
  go_upto_region 1 with fail
  generalize hbb : w.heap.size = b at *
  have HSZ : Hid (w.heap.size ≤ b) := Lib.hid (by omega)
  have HBB := Lib.hid hbb
  generalize w.alloc (.cells #[.int .i64 rm, .int .i64 rn, .int .i64 rp, .slice A na ca, .slice B nb cb] 56) = w0 at *
  have HO0 := Lib.hid hO0
  clear hO0 hbb
  go_wp2_with fail
  refine (ref_rec_may_any rm rn rp A na ca its B nb cb bl _ (by exact HI.out.keep0 HO0.out) (by exact HJ.out.keep0 HO0.out)).mono ?_
  rintro e w1 ⟨rfl, hO1⟩
  rw [HM.out]
  have HB1 := Lib.hid (hbx.keep0 hO1)
  have HO1 := Lib.hid (HO0.out.trans' hO1)
  clear hO1 x0 x1 x2 x3 x4 hbx HO0
  have x4 := HB1.out.cell 4 (by simp)
  simp only [List.getElem_cons_zero, List.getElem_cons_succ] at x4
  go_wp2_with fail
  first | rw [HTI.out] | skip
  refine (ref_begun_any (T : Int) 75 82 75 82 _ rfl rfl (by omega) (by omega)).mono ?_
  rintro e w2 ⟨p, g, rfl, hp, hg, hr, hO⟩
  rw [Int.toNat_natCast] at hr
  have hz : (List.replicate T (0 : UInt8)).length = T := by rw [List.length_replicate]
  have HRW : Hid (lay (List.replicate T (0 : UInt8)) 0 (cat (rcFs ⟨rm, rn, rp, its, bl⟩) ++ itsB its) = rcHead ⟨rm, rn, rp, its, bl⟩ ++ List.replicate (4 + 64 * nb) 0) := Lib.hid (by rw [HT.out]; exact rc_row_t (r := ⟨rm, rn, rp, its, bl⟩) HM5.out nb)
  generalize List.replicate T (0 : UInt8) = zr at *
  have HZ := Lib.hid hz
  rw [show ([75, 82] : List UInt8) = cat [(1, 75), (1, 82)] from rfl] at hr
  have HS : Hid (Encs w w2 p g 2 b (lay zr 0 (cat [(1, 75), (1, 82)])) [.int .i64 rm, .int .i64 rn, .int .i64 rp, .slice A na ca, .slice B nb cb]) := Lib.hid (Encs.start HB1.out HO1.out hp hg hr hO)
  clear hr hO hp hg hz HB1 HO1 x4
  have HX : Hid ((lay zr 0 (cat [(1, 75), (1, 82)])).length = T) := Lib.hid (by rw [lay_length _ _ _ (by rw [cat_length, HZ.out]; show (2 : Nat) ≤ T; omega), HZ.out])
  have HLC := Lib.hid (lay_cat zr [(1, 75), (1, 82)] 2 4 [rm, rn, rp] rfl (by rw [HZ.out]; show (14 : Nat) ≤ T; omega))
  generalize lay zr 0 (cat [(1, 75), (1, 82)]) = X1 at *
  obtain ⟨x0, x1, x2⟩ := Kn.own3 HS.out.box
  go_wp2_with fail
  refine (ref_put_any p g 2 X1 4 _ 3 3 [rm, rn, rp] _ (by exact HS.out.row.alloc _) (by exact ins_built _ [rm, rn, rp] _ 3 rfl (by omega)) (by exact ne_built HS.out.row) (by decide) (by rw [HX.out]; omega) HF1.out).mono ?_
  rintro e w5 ⟨rfl, hr, hO⟩
  rw [HLC.out] at hr
  have HSn : Hid (Encs w w5 p g 14 b (lay zr 0 (cat ([(1, 75), (1, 82)] ++ [rm, rn, rp].map fun z => (4, z)))) [.int .i64 rm, .int .i64 rn, .int .i64 rp, .slice A na ca, .slice B nb cb]) := Lib.hid ((HS.out.alloc _).put hr hO)
  clear hr hO HS HX
  have HS := HSn
  clear HSn
  clear HLC x0 x1 x2
  have HX : Hid ((lay zr 0 (cat ([(1, 75), (1, 82)] ++ [rm, rn, rp].map fun z => (4, z)))).length = T) := Lib.hid (by rw [lay_length _ _ _ (by rw [cat_length, HZ.out]; show (14 : Nat) ≤ T; omega), HZ.out])
  have HLC := Lib.hid (lay_cat zr ([(1, 75), (1, 82)] ++ [rm, rn, rp].map fun z => (4, z)) 14 1 [(na : Int), (nb : Int)] rfl (by rw [HZ.out]; show (16 : Nat) ≤ T; omega))
  have HFS : Hid (([(1, 75), (1, 82)] ++ [rm, rn, rp].map fun z => (4, z)) ++ [(na : Int), (nb : Int)].map (fun z => (1, z)) = rcFs ⟨rm, rn, rp, its, bl⟩) := Lib.hid (by unfold rcFs; rw [HL.out, HLB.out]; rfl)
  generalize lay zr 0 (cat ([(1, 75), (1, 82)] ++ [rm, rn, rp].map fun z => (4, z))) = X2 at *
  have x3 := HS.out.box.cell 3 (by simp)
  have x4 := HS.out.box.cell 4 (by simp)
  simp only [List.getElem_cons_zero, List.getElem_cons_succ] at x3 x4
  go_wp2_with fail
  refine (ref_put_any p g 14 X2 1 _ 2 2 [(na : Int), (nb : Int)] _ (by exact HS.out.row.alloc _) (by exact ins_built _ [(na : Int), (nb : Int)] _ 2 rfl (by omega)) (by exact ne_built HS.out.row) (by decide) (by rw [HX.out]; omega) HF2.out).mono ?_
  rintro e w6 ⟨rfl, hr, hO⟩
  rw [HLC.out, HFS.out] at hr
  have HSn : Hid (Encs w w6 p g 16 b (lay zr 0 (cat (rcFs ⟨rm, rn, rp, its, bl⟩))) [.int .i64 rm, .int .i64 rn, .int .i64 rp, .slice A na ca, .slice B nb cb]) := Lib.hid ((HS.out.alloc _).put hr hO)
  clear hr hO HS HX
  have HS := HSn
  clear HSn
  clear HLC HFS x3 x4
  have hcl16 : (cat (rcFs ⟨rm, rn, rp, its, bl⟩)).length = 16 := rcFs_len _
  have HX : Hid ((lay zr 0 (cat (rcFs ⟨rm, rn, rp, its, bl⟩))).length = T) := Lib.hid (by rw [lay_length _ _ _ (by rw [hcl16, HZ.out]; omega), HZ.out])
  have HLI : Hid (lay (lay zr 0 (cat (rcFs ⟨rm, rn, rp, its, bl⟩))) 16 (itsB its) = rcHead ⟨rm, rn, rp, its, bl⟩ ++ List.replicate (4 + 64 * nb) 0) := Lib.hid (by
   have e := lay_lay zr 0 (cat (rcFs ⟨rm, rn, rp, its, bl⟩)) (itsB its) (by rw [hcl16, HLL.out, HZ.out]; omega)
   rw [hcl16, Nat.zero_add] at e
   rw [e]
   exact HRW.out)
  clear hcl16
  generalize lay zr 0 (cat (rcFs ⟨rm, rn, rp, its, bl⟩)) = X3 at *
  have x3 := HS.out.box.cell 3 (by simp)
  simp only [List.getElem_cons_zero, List.getElem_cons_succ] at x3
  go_wp2_with fail
  refine (ref_item_enc_any A na ca its _ (by exact HI.out.keep0 HS.out.only)).mono ?_
  rintro e w7 ⟨A2, c2, rfl, hb2, hn2, hO⟩
  rw [HE.out] at hb2 hn2 ⊢
  simp only [Option.getD_some, Option.isSome_some, if_true] at hb2 hn2 ⊢
  rw [HLL.out] at hb2 ⊢
  have HIB := Lib.hid hb2
  have HSn := Lib.hid (HS.out.keep hO)
  clear hb2 hn2 hO HS x3
  have HS := HSn
  clear HSn
  go_wp2_with fail
  refine (ref_lay_any p g 16 X3 A2 L c2 (itsB its) _ (by exact HS.out.row) (by exact HIB.out) (by rw [HX.out]; omega)).mono ?_
  rintro e w8 ⟨rfl, hr, hO⟩
  rw [HLI.out] at hr
  have hl60 := rcHead_length (r := ⟨rm, rn, rp, its, bl⟩) HM5.out
  have hX4 : (rcHead ⟨rm, rn, rp, its, bl⟩ ++ List.replicate (4 + 64 * nb) 0).length = T := by rw [List.length_append, hl60, List.length_replicate, HT.out]; omega
  have hbk : lay (rcHead ⟨rm, rn, rp, its, bl⟩ ++ List.replicate (4 + 64 * nb) 0) 64 bl.flatten = rcHead ⟨rm, rn, rp, its, bl⟩ ++ (List.replicate 4 0 ++ bl.flatten) := by
   have := rc_blocks hl60 bl HBF.out
   rw [HLB.out] at this
   exact this
  have HSn : Hid (Encs w w8 p g (16 + L) b (rcHead ⟨rm, rn, rp, its, bl⟩ ++ List.replicate (4 + 64 * nb) 0) [.int .i64 rm, .int .i64 rn, .int .i64 rp, .slice A na ca, .slice B nb cb]) := Lib.hid (HS.out.put hr hO)
  have HX4 := Lib.hid hX4
  have HL60 := Lib.hid hl60
  have HBK := Lib.hid hbk
  have hfl := flat64 HBF.out
  rw [HLB.out] at hfl
  have HFL := Lib.hid hfl
  clear hr hO HS HIB HX HLI hX4 hl60 hbk hfl
  have HS := HSn
  clear HSn
  generalize rcHead ⟨rm, rn, rp, its, bl⟩ ++ List.replicate (4 + 64 * nb) 0 = X4 at *
  have hy0 := HS.out.row.fk
  have hy1 := HS.out.row.pz 1
  have hlp := HS.out.row.lp
  go_upto_region 9 with fail
  have HSn : Hid (Encs w (w8.setCell ⟨p, 1, none⟩ (.int .i64 (64 : Nat))) p g 64 b X4 [.int .i64 rm, .int .i64 rn, .int .i64 rp, .slice A na ca, .slice B nb cb]) := Lib.hid (HS.out.put (HS.out.row.place 64 (by rw [HX4.out]; omega)) ((Only.refl [p, g] w8).set (by simp) _))
  rw [show ((64 : Nat) : Int) = 64 from rfl] at HSn
  clear HS hy0 hy1 hlp
  have HS := HSn
  clear HSn
  generalize w8.setCell ⟨p, 1, none⟩ (.int .i64 64) = w9 at *
  go_wp2_with fail
  go_loopg [8] nb (fun r i wr => ∃ t : Nat, t + r = nb ∧ i = .int .i64 t ∧ Encs w wr p g (64 + 64 * t) b (lay X4 64 (bl.take t).flatten) [.int .i64 rm, .int .i64 rn, .int .i64 rp, .slice A na ca, .slice B nb cb])
  case atStart => exact ⟨0, by omega, rfl, by simpa [lay_nil] using HS.out⟩
  obtain ⟨t, ht, rfl, hs⟩ := hrel
  have HR := Lib.hid hs
  clear hs HS
  by_cases hlt : t < nb
  ·have hjz : t < bl.length := by rw [HLB.out]; exact hlt
   obtain ⟨ga, oa, B', m', d', rfl, q0, hb⟩ := HJ.out.at_ t hlt
   have c0 := HR.out.only.cell q0 (by simp)
   have hbl := hb.len
   rw [bvs_length, full64_get HBF.out t hjz] at hbl
   subst hbl
   have HB := Lib.hid (hb.keep0 HR.out.only)
   have hfe : (bl.take t).flatten.length = 64 * t := by
    have := flat64 (full64_take HBF.out t)
    rw [List.length_take, Nat.min_eq_left (by omega)] at this
    exact this
   have hnx : lay (lay X4 64 (bl.take t).flatten) (64 + 64 * t) bl[t] = lay X4 64 (bl.take (t + 1)).flatten := by
    have e := lay_lay X4 64 (bl.take t).flatten bl[t] (by rw [hfe, full64_get HBF.out t hjz, HX4.out, HT.out]; omega)
    rw [hfe] at e
    rw [e, ← flat_take hjz]
   have hxl : (lay X4 64 (bl.take t).flatten).length = T := by rw [lay_length _ _ _ (by rw [hfe, HX4.out, HT.out]; omega), HX4.out]
   have HNX := Lib.hid hnx
   have HXL := Lib.hid hxl
   have hlt2 : (t : Int) < (nb : Int) := by omega
   have hge : 0 ≤ (t : Int) := by omega
   have htn : ((t : Int)).toNat = t := by omega
   have hroom : 64 ≤ T - (64 + 64 * t) := by have := HT.out; omega
   have x4 := HR.out.box.cell 4 (by simp)
   simp only [List.getElem_cons_zero, List.getElem_cons_succ] at x4
   clear hb q0 hfe hnx hxl
   generalize bl[t] = bt at *
   generalize lay X4 64 (bl.take t).flatten = Xt at *
   generalize hXn : lay X4 64 (bl.take (t + 1)).flatten = Xn at *
   have HXn := Lib.hid hXn
   clear hXn
   go_wp2_with fail
   refine (ref_lay_any p g (64 + 64 * t) Xt B' 64 d' bt _ (by exact HR.out.row) (by exact HB.out) (by rw [HXL.out]; exact hroom)).mono ?_
   rintro e wq ⟨rfl, hr, hO⟩
   rw [HNX.out] at hr
   have HR2 : Hid (Encs w wq p g (64 + 64 * (t + 1)) b Xn [.int .i64 rm, .int .i64 rn, .int .i64 rp, .slice A na ca, .slice (some ⟨ga, oa, none⟩) nb cb]) := Lib.hid (by
    have := HR.out.put hr hO
    rwa [show 64 + 64 * t + 64 = 64 + 64 * (t + 1) from by omega] at this)
   clear hr hO HR x4 c0
   go_wp2
   go_roundg (gk - 1)
   case measure => omega
   case rel => exact ⟨t + 1, by omega, by go_num, by rw [HXn.out]; exact HR2.out⟩
  ·obtain rfl : t = nb := by omega
   have htk : bl.take t = bl := List.take_of_length_le (by rw [HLB.out]; omega)
   have hr5 := HR.out
   rw [htk, HBK.out] at hr5
   have HS := Lib.hid hr5
   have x4 := HR.out.box.cell 4 (by simp)
   simp only [List.getElem_cons_zero, List.getElem_cons_succ] at x4
   have hX5 : (rcHead ⟨rm, rn, rp, its, bl⟩ ++ (List.replicate 4 0 ++ bl.flatten)).length = T := by rw [List.length_append, HL60.out, List.length_append, List.length_replicate, HFL.out, HT.out]; omega
   have hT5 : (rcHead ⟨rm, rn, rp, its, bl⟩ ++ (List.replicate 4 0 ++ bl.flatten)).take 60 = rcHead ⟨rm, rn, rp, its, bl⟩ := List.take_left' HL60.out
   have hD5 : ((rcHead ⟨rm, rn, rp, its, bl⟩ ++ (List.replicate 4 0 ++ bl.flatten)).drop 64).take (64 * t) = bl.flatten := by
    rw [← List.append_assoc, List.drop_left' (by rw [List.length_append, HL60.out, List.length_replicate]), List.take_of_length_le (by rw [HFL.out]; omega)]
   have hRS := rc_sum_t (r := ⟨rm, rn, rp, its, bl⟩) HM5.out (rcSum ⟨rm, rn, rp, its, bl⟩) bl.flatten
   have hRB : rcHead ⟨rm, rn, rp, its, bl⟩ ++ (le 4 (rcSum ⟨rm, rn, rp, its, bl⟩) ++ bl.flatten) = rcBytes ⟨rm, rn, rp, its, bl⟩ := rfl
   rw [hRB] at hRS
   have hsm : 4294967295 - cadd (4294967295 - csum (rcHead ⟨rm, rn, rp, its, bl⟩)) bl.flatten = rcSum ⟨rm, rn, rp, its, bl⟩ := csum_more _ _
   have hs32 : rcSum ⟨rm, rn, rp, its, bl⟩ < 4294967296 := csum_lt _
   have hrl := rcBytes_length (r := ⟨rm, rn, rp, its, bl⟩) HM.out
   have HENC : Hid (encRc ⟨rm, rn, rp, its, bl⟩ = some (rcBytes ⟨rm, rn, rp, its, bl⟩, rcSum ⟨rm, rn, rp, its, bl⟩)) := Lib.hid (enc_rc HM.out)
   generalize rcHead ⟨rm, rn, rp, its, bl⟩ ++ (List.replicate 4 0 ++ bl.flatten) = X5 at *
   generalize rcSum ⟨rm, rn, rp, its, bl⟩ = s at *
   generalize rcBytes ⟨rm, rn, rp, its, bl⟩ = RB at *
   rw [← hT5, ← hD5] at hsm
   have HX5 := Lib.hid hX5
   have HSM := Lib.hid hsm
   have HRS := Lib.hid hRS
   have HRL := Lib.hid hrl
   obtain ⟨A0, c0, hf0, hfb, hfA⟩ := row_bys HS.out.row
   rw [HX5.out] at hf0 hfb hfA
   obtain rfl := hfA (by omega)
   have hTc := hfb.le
   have hcM := hfb.cm
   have hcM2 := hcM
   unfold maxLen at hcM2
   have hc60 : (60 : Int) ≤ (c0 : Int) := by omega
   obtain ⟨A64, hA64⟩ : ∃ x, cutA (some (⟨g, 0, none⟩ : Addr)) c0 64 = x := ⟨_, rfl⟩
   have hs64 : ∀ w, (Instr.slice 47 (.slice (some ⟨g, 0, none⟩) T c0) (some (.int .i64 64)) none none).run Tryz.prog w = .ok (.slice A64 (64 * t) (c0 - 64)) w := fun w => by
    have := run_slice1_lo (P := Tryz.prog) w 47 5 Tryz.underlying47 (by kernel_rfl) (some ⟨g, 0, none⟩) T c0 64 64 (64 * t) .i64 rfl (by omega) (by have := HT.out; omega)
    rwa [hA64] at this
   have HC1 : Hid (∀ V, Bys V (some ⟨g, 0, none⟩) T c0 X5 → Bys V (some ⟨g, 0, none⟩) 60 c0 (X5.take 60)) := Lib.hid (fun V h => by
    have h2 := h.cut (l := 0) (m := 60) (by omega)
    rw [bvs_cut, List.drop_zero, Nat.sub_zero] at h2
    have e : cutA (some (⟨g, 0, none⟩ : Addr)) c0 0 = some ⟨g, 0, none⟩ := by
     rw [cutA, if_neg (by omega)]
     simp [Addr.add]
    rwa [e] at h2)
   have HC2 : Hid (∀ V, Bys V (some ⟨g, 0, none⟩) T c0 X5 → Bys V A64 (64 * t) (c0 - 64) ((X5.drop 64).take (64 * t))) := Lib.hid (fun V h => by
    have h2 := h.cut (l := 64) (m := 64 * t) (by have := HT.out; omega)
    rwa [bvs_cut, hA64] at h2)
   have HFB := Lib.hid hfb
   clear htk hr5 hX5 hT5 hD5 hRS hRB hsm hrl hfb hfA hA64 hlt HR HBK
   go_wp2_with fail
   have HSd := Lib.hid HS.out.drew
   have HFBd := Lib.hid HFB.out.drew
   clear HS HFB
   refine wp_region_held_drew (S := (fun w' => w'.cell? ⟨p, 0, none⟩ = some (.slice (some ⟨g, 0, none⟩) T c0))) (by kernel_rfl) hf0 (fun hSw0 => ?_)
   refine Kn.takeS 0 ⟨some 63, _, _, _, _, _⟩ ?_
   refine Kn.takeS 1 ⟨some 64, _, _, _, _, _⟩ ?_
   refine Kn.takeS 2 ⟨some 65, _, _, _, _, _⟩ ?_
   refine Kn.takeS 3 ⟨some 66, _, _, _, _, _⟩ ?_
   refine Kn.takeS 4 ⟨some 67, _, _, _, _, _⟩ ?_
   refine Kn.takeS 6 ⟨some 69, _, _, _, _, _⟩ ?_
   refine Kn.takeS 7 ⟨some 70, _, _, _, _, _⟩ ?_
   refine Kn.takeS 8 ⟨some 71, _, _, _, _, _⟩ ?_
   refine Kn.takeS 9 ⟨some 72, _, _, _, _, _⟩ ?_
   refine Kn.takeS 10 ⟨some 73, _, _, _, _, _⟩ ?_
   refine Kn.takeR 5 ⟨some 68, _, _, _, _, _⟩ fun K hK => ?_
   go_simp
   refine (ref_sum_any (some ⟨g, 0, none⟩) 60 c0 (X5.take 60) _ (HC1.out _ HFBd.out)).mono ?_
   rintro en va ⟨rfl, hOe⟩
   have HSe := Lib.hid (HSd.out.keep hOe)
   have HFBe := Lib.hid (HFBd.out.keep0 hOe)
   clear HSd HFBd
   refine hK.out _ _ (hOe.cell hSw0 (by simp)) (fun hSn => ?_)
   clear hK K hSw0
   have hSw0 := hSn
   clear hSn hOe
   refine Kn.takeR 11 ⟨some 74, _, _, _, _, _⟩ fun K hK => ?_
   go_simp
   refine (ref_more_any (csum (X5.take 60)) A64 (64 * t) (c0 - 64) ((X5.drop 64).take (64 * t)) _ (csum_lt _) (HC2.out _ HFBe.out)).mono ?_
   rintro en vb ⟨rfl, hOf⟩
   rw [HSM.out]
   have HSf := Lib.hid (HSe.out.keep hOf)
   have HFBf := Lib.hid (HFBe.out.keep0 hOf)
   clear HSe HFBe
   refine hK.out _ _ (hOf.cell hSw0 (by simp)) (fun hSn => ?_)
   clear hK K hSw0
   have hSw0 := hSn
   clear hSn hOf
   refine Kn.takeS 12 ⟨some 9, _, _, _, _, _⟩ ?_
   refine wpAnyH_done (by kernel_rfl) ?_ _
   have hy0 := HSf.out.row.fk
   have hy1 := HSf.out.row.pz 1
   have hlp := HSf.out.row.lp
   clear hSw0 hs64 hc60
   go_upto_region 15 with fail
   have HS : Hid (Encs w (vb.setCell ⟨p, 1, none⟩ (.int .i64 (60 : Nat))) p g 60 b X5 [.int .i64 rm, .int .i64 rn, .int .i64 rp, .slice A na ca, .slice B t cb]) := Lib.hid (HSf.out.put (HSf.out.row.place 60 (by rw [HX5.out]; omega)) ((Only.refl [p, g] vb).set (by simp) _))
   rw [show ((60 : Nat) : Int) = 60 from rfl] at HS
   clear HSf HFBf hy0 hy1 hlp
   generalize vb.setCell ⟨p, 1, none⟩ (.int .i64 60) = vc at *
   go_wp2_with fail
   refine (ref_one_any p g 60 X5 4 (s : Int) _ (by exact HS.out.row) (by decide) (by rw [HX5.out]; omega) (by omega)).mono ?_
   rintro e vd ⟨rfl, hr, hO⟩
   rw [Int.toNat_natCast, HRS.out] at hr
   have HS2 : Hid (Encs w vd p g (60 + 4) b RB [.int .i64 rm, .int .i64 rn, .int .i64 rp, .slice A na ca, .slice B t cb]) := Lib.hid (HS.out.put hr hO)
   obtain ⟨A9, c9, hf9, hfb9, hfA9⟩ := row_bys hr
   obtain rfl := hfA9 (by rw [HRL.out]; omega)
   have hoR := hr.own (by rw [HRL.out]; omega)
   have HOR := Lib.hid hoR
   have hc9 := hfb9.le
   have hm9 := hfb9.cm
   have hggw := HS.out.hg
   clear hr hO HS hfb9 hfA9 hoR
   go_wp2
   go_ret3
   exact .inr ⟨RB, s, g, c9, HENC.out, rfl, hc9, hm9, hggw, HOR.out, HS2.out.only⟩
end Go.Proofs.YtgcfdjcpcclcjaaGreat
namespace Go.Kn
open Go Go.RowKit
/-- a disk with power, of which nothing is held -/
structure Dk.Live (d : Dk) : Prop where
 off : d.off = false
 fuse : d.fuse = -1
theorem Dk.Live.gone {d : Dk} (h : d.Live) : d.gone = false := by unfold Dk.gone; rw [h.off, h.fuse]; rfl
theorem Dk.Live.act {d : Dk} (h : d.Live) : d.act.Live := by
 have hg := h.gone
 refine ⟨hg, ?_⟩
 unfold Dk.act
 simp only [hg, Bool.false_eq_true, if_false, h.fuse]
 rfl
theorem Dk.Live.write {d : Dk} (h : d.Live) (a : Int) (b : List UInt8) : (d.write a b).1.Live := by
 unfold Dk.write
 split
 ·split
  ·exact h.act
  ·exact ⟨h.act.off, h.act.fuse⟩
 ·exact h
theorem Dk.Live.wrs {d : Dk} (h : d.Live) (a : Int) (b : List UInt8) : ∀ i, (d.wrs a b i).Live
 | 0 => h
 | i + 1 => (Dk.Live.wrs h a b i).write _ _
theorem Dk.Live.flush {d : Dk} (h : d.Live) : d.flush = (d.flushed, 0) ∧ d.flushed.Live ∧ d.flushed.held = [] := by
 refine ⟨?_, ⟨h.act.off, h.act.fuse⟩, rfl⟩
 unfold Dk.flush
 rw [h.gone]
 rfl
theorem Dk.Live.puts {d : Dk} (h : d.Live) (a : Int) (b : List UInt8) : (d.puts a b).Live ∧ (d.puts a b).held = [] := by
 unfold Dk.puts
 rw [(h.wrs a b _).flush.1]
 exact (h.wrs a b _).flush.2
/-- records to be laid, in the world -/
structure Krs (w : World) (A : Option Addr) (n c : Nat) (l : List KR) (ss : List (Option Addr × Nat × Nat)) : Prop where
 len : l.length = n
 sl : ss.length = n
 le : n ≤ c
 cm : c ≤ maxLen
 at_ : 0 < n → ∃ g o, A = some ⟨g, o, none⟩ ∧ ∀ i (h : i < l.length) (h2 : i < ss.length), w.cell? ⟨g, o + i * 5, none⟩ = some (slv ss[i]) ∧ w.cell? ⟨g, o + i * 5 + 1, none⟩ = some (.int .i64 l[i].fill) ∧ w.cell? ⟨g, o + i * 5 + 2, none⟩ = some (.int .i64 l[i].skew) ∧ w.cell? ⟨g, o + i * 5 + 3, none⟩ = some (.int .i64 l[i].twist) ∧ w.cell? ⟨g, o + i * 5 + 4, none⟩ = some (.int .i64 l[i].up)
 ks : ∀ i (h : i < l.length) (h2 : i < ss.length), Ins w ss[i].1 ss[i].2.1 ss[i].2.2 l[i].kinds
structure PsOk (cf : Cf) (q : Ps) : Prop where
 wf : q.Wf
 s : 0 ≤ q.s ∧ q.s ≤ cf.s - 1
 o : 0 ≤ q.o ∧ q.o ≤ 64
theorem PsOk.at_ {cf : Cf} {q : Ps} (h : PsOk cf q) (hc : cf.Ok) : 0 ≤ cf.at_ q.s ∧ cf.at_ q.s ≤ 100000 := by
 obtain ⟨m1, m2⟩ := Cf.prod cf hc q.s h.s.1 (by have := h.s.2; omega)
 have h1 := rln_bounds hc
 have h2 := pgs_bounds hc
 unfold Cf.at_
 rw [if_pos h.s]
 omega
theorem enc_some {x : Rc} {b : List UInt8} {s : Nat} (h : encRc x = some (b, s)) : rcMay x = true ∧ b = rcBytes x ∧ s = rcSum x ∧ b.length = 64 * (1 + x.bl.length) ∧ x.bl.length ≤ 6 ∧ (1 ≤ x.m ∧ x.m ≤ 2147483647) ∧ (1 ≤ x.n ∧ x.n ≤ 2147483647) ∧ s < 4294967296 := by
 unfold encRc at h
 split at h
 ·rename_i hm
  injection h with h
  injection h with h1 h2
  subst h1 h2
  obtain ⟨⟨q1, q2, q3, q4, q5⟩, q6, q7, q8⟩ := rcMay_iff.1 hm
  refine ⟨hm, rfl, rfl, rcBytes_length hm, ?_, q1, q2, csum_lt _⟩
  rw [q7]
  have : loads x.its ≤ x.its.length := List.length_filter_le _ _
  omega
 ·cases h
theorem PsOk.next {cf : Cf} {q : Ps} (h : PsOk cf q) (hc : cf.Ok) {r : KR} {b : List UInt8} {s : Nat} (he : encRc (kMade q r) = some (b, s)) (hn : ¬ cf.l - 1 < q.o + ((b.length / 64 : Nat) : Int)) : PsOk cf ⟨q.s, q.o + ((b.length / 64 : Nat) : Int), (kMade q r).n + 1, (s : Nat), (kMade q r).m⟩ := by
 obtain ⟨_, _, _, _, _, h1, h2, h3⟩ := enc_some he
 have hl := hc.2.2
 have ho := h.o
 exact ⟨⟨by show -1000000000000 ≤ (kMade q r).m ∧ (kMade q r).m ≤ 1000000000000; omega, by show -1000000000000 ≤ (kMade q r).n + 1 ∧ (kMade q r).n + 1 ≤ 1000000000000; omega, by show -1000000000000 ≤ ((s : Nat) : Int) ∧ ((s : Nat) : Int) ≤ 1000000000000; omega⟩, h.s, by show 0 ≤ q.o + ((b.length / 64 : Nat) : Int) ∧ q.o + ((b.length / 64 : Nat) : Int) ≤ 64; omega⟩
end Go.Kn
namespace Go.Proofs.YtgcfdjcpcclcjaaGreat
open Go Go.RowKit Go.Kn
theorem Duo.head {w0 w : World} {p : PD} {r : RD} {d e : Dk} {b : Nat} {xs ys : List Value} {L : List (Nat × List Value)} {G : List Gs} {F : List (World → Prop)} {w' : World} (h : Duo w0 w p r d e ⟨(b, xs) :: L, G, F⟩) (ho : Kn.Own w' b ys) (hO : Only [b] w w') : Duo w0 w' p r d e ⟨(b, ys) :: L, G, F⟩ := by
 obtain ⟨L0, G0, F0, hw, back⟩ := h.fr
 exact back w' ⟨(b, ys) :: L, G, F⟩ (hw.call1 0 rfl ho hO)
theorem Duo.call {w0 w : World} {p : PD} {r : RD} {d e : Dk} {b : Nat} {xs ys : List Value} {L : List (Nat × List Value)} {G : List Gs} {F : List (World → Prop)} {w' : World} (h : Duo w0 w p r d e ⟨L, G, F⟩) (i : Nat) (hi : L[i]? = some (b, xs)) (ho : Kn.Own w' b ys) (hO : Only [b] w w') : Duo w0 w' p r d e ⟨L.set i (b, ys), G, F⟩ := by
 obtain ⟨L0, G0, F0, hw, back⟩ := h.fr
 have hlt : i < L.length := (List.getElem?_eq_some_iff.1 hi).1
 have h1 := hw.call1 i (p := b) (cs := xs) (by rw [List.getElem?_append_left hlt]; exact hi) ho hO
 rw [List.set_append_left _ _ hlt] at h1
 exact back w' ⟨L.set i (b, ys), G, F⟩ h1
end Go.Proofs.YtgcfdjcpcclcjaaGreat
namespace Go.Kn
open Go Go.RowKit
theorem scanB_some {d : Dk} {c : Cf} {own : Bool} {p : Ps} {x : It} (h : (0 ≤ p.s ∧ p.s ≤ c.s - 1) ∧ 0 ≤ p.o ∧ p.o < c.l) (h0 : ¬ 0 < p.o) (he : d.err (c.at_ p.s) = 0) (hd : decHead (d.read (c.at_ p.s)) = some x) : scanB d c own p = if (own || headFits (some x) p.s p.l p.p p.m) = true then (⟨p.s, 1, x.c, x.v, x.b⟩, true, 0) else (p, false, 0) := by unfold scanB; rw [if_pos h, if_neg h0, if_pos he, hd]
end Go.Kn
namespace Go.Proofs.YtgcfdjcpcclcjaaGreat
open Go Go.RowKit Go.Kn
theorem field_cfg2 (b s l : Int) (w : World) : (Instr.field 25 (.agg #[.int .i64 b, .int .i64 s, .int .i64 l]) 2).run Tryz.prog w = .ok (.int .i64 l) w := by kernel_rfl
end Go.Proofs.YtgcfdjcpcclcjaaGreat
namespace Go.Kn
open Go Go.RowKit
theorem ownsRow_base {w : World} {b b' e sz n : Nat} {v : Value} {xs : List Value} (h : w.ownsRow b' e sz v n xs) (hb : b ≤ b') : w.ownsRow b e sz v n xs := by
 obtain ⟨h1, h2⟩ := h
 refine ⟨h1, ?_⟩
 rcases h2 with h2 | ⟨g, cap, cur, hv, hb', rest⟩
 ·exact .inl h2
 ·exact .inr ⟨g, cap, cur, hv, Nat.le_trans hb hb', rest⟩
/-- a slice more that is owned: in new blocks -/
theorem Wc.gadd {w0 w w' : World} {L : List (Nat × List Value)} {G : List Gs} {F : List (World → Prop)} (h : Wc w0 w L G F) (hO : Only [] w w') {e sz n : Nat} {v : Value} {xs : List Value} (ho : w'.ownsRow w.heap.size e sz v n xs) : Wc w0 w' L (⟨e, sz, v, n, xs⟩ :: G) F := by
 have h' := h.keep0 hO
 have hlt := ho.lt
 have hm : ∀ k, Mut L G k → k < w.heap.size := fun k hk => h.mlt hk
 refine ⟨h'.only, h'.own, h'.lo, h'.nd, ?_, ?_, ?_, ?_⟩
 ·intro x hx
  rcases List.mem_cons.1 hx with rfl | hx
  ·exact ownsRow_base ho h.only.size
  ·exact h'.g1 x hx
 ·refine List.Pairwise.cons (fun y hy k hk hy2 => ?_) h'.g2
  have h1 := (hlt k hk).1
  have h2 := hm k (.inr ⟨y, hy, hy2⟩)
  omega
 ·intro x hx y hy
  rcases List.mem_cons.1 hy with rfl | hy
  ·intro hk
   have h1 := (hlt _ hk).1
   have h2 := hm x.1 (.inl (List.mem_map_of_mem hx))
   omega
  ·exact h'.g3 x hx y hy
 ·intro f hf w2 h2
  refine h.fx f hf w2 fun k o hn hk hc => h2 k o ?_ (by rw [hO.block k (lt_of_obj hk) (by simp)]; exact hk) hc
  have hk' := lt_of_obj hk
  rintro (h3 | ⟨g, hg, h3⟩)
  ·exact hn (.inl h3)
  ·rcases List.mem_cons.1 hg with rfl | hg
   ·have := (hlt k h3).1
    omega
   ·exact hn (.inr ⟨g, hg, h3⟩)
end Go.Kn
namespace Go.Proofs.YtgcfdjcpcclcjaaGreat
open Go Go.RowKit Go.Kn
def RdOwn (w : World) (b : List UInt8) (err : Int) (e : Ending) (w' : World) : Prop := ∃ v n, e = .returned (.tuple #[v, .int .i64 err]) ∧ w'.ownsRow w.heap.size 5 1 v n (bvs b) ∧ Only [] w w'
theorem RdOwn.none (w : World) (err : Int) : RdOwn w [] err (.returned (.tuple #[.slice none 0 0, .int .i64 err])) w := ⟨_, 0, rfl, World.ownsRow_nil w _ _ _, Only.refl _ _⟩
theorem _root_.Go.Kn.Wk.gadd {w0 wb w w' : World} {L : List (Nat × List Value)} {G : List Gs} {F : List (World → Prop)} (h : Wk w0 wb w L G F) (hO : Only [] w w') {e sz n : Nat} {v : Value} {xs : List Value} (ho : w'.ownsRow w.heap.size e sz v n xs) : Wk w0 wb w' L (⟨e, sz, v, n, xs⟩ :: G) F := h.to (h.toWc.gadd hO ho) (kb_only0 hO)
end Go.Proofs.YtgcfdjcpcclcjaaGreat
namespace Go.Kn
open Go Go.RowKit
section
variable {d : Dk} {c : Cf} {p : Ps} {a : Int} {n : Nat}
theorem follow_out (h : ¬ (1 ≤ p.o ∧ p.o ≤ c.l - 1)) : follow d c p = (none, 0) := if_neg h
theorem follow_size (h : 1 ≤ p.o ∧ p.o ≤ c.l - 1) (ha : c.at_ p.s + p.o = a) (he : d.err a = 0) (hn : sizeRc (d.read a) = n) (hs : n = 0 ∨ c.l < p.o + (n : Int)) : follow d c p = (none, 0) := by
 unfold follow
 rw [if_pos h, ha, if_pos he, hn, if_pos hs]
theorem follow_rec (h : 1 ≤ p.o ∧ p.o ≤ c.l - 1) (ha : c.at_ p.s + p.o = a) (he : d.err a = 0) (hn : sizeRc (d.read a) = n) (hs : ¬ (n = 0 ∨ c.l < p.o + (n : Int))) (hg : gerr d a n = 0) {r : Rc} {sum : Nat} (hd : decRc (gat d a n) = some (r, sum)) :
  follow d c p = if r.n = p.l ∧ r.p = p.p ∧ p.m ≤ r.m then (some (r, ⟨p.s, p.o + (n : Int), p.l + 1, (sum : Nat), r.m⟩), 0) else (none, 0) := by
 unfold follow
 rw [if_pos h, ha, if_pos he, hn, if_neg hs, if_pos hg, hd]
end
end Go.Kn
namespace Go.Proofs.YtgcfdjcpcclcjaaGreat
open Go Go.RowKit Go.Kn
def OneSays (w0 wb : World) (S D gb : Nat) (p : Ps) (own : Bool) (e : Ps) (L : List (Nat × List Value)) (G : List Gs) (F : List (World → Prop)) (x : Option (Rc × Ps) × Int) (en : Ending) (w' : World) : Prop :=
 match x with
 | (none, er) => en = .returned (.tuple #[.agg #[.int .i64 0, .int .i64 0, .int .i64 0, .slice none 0 0, .slice none 0 0], .agg #[.int .i64 0, .int .i64 0, .int .i64 0, .int .i64 0, .int .i64 0], .bool false]) ∧ Wk w0 wb w' ((S, SB D gb p own e er) :: L) G F
 | (some (r, nx), _) => ∃ s t, en = .returned (.tuple #[.agg (r.cells s t), .agg #[.int .i64 nx.s, .int .i64 nx.o, .int .i64 nx.l, .int .i64 nx.p, .int .i64 nx.m], .bool true]) ∧ Wk w0 wb w' ((S, SB D gb p own e 0) :: L) G ((fun W => RcAt W r s t) :: F)
theorem OneSays.no {w0 wb w' : World} {S D gb : Nat} {p : Ps} {own : Bool} {e : Ps} {L : List (Nat × List Value)} {G : List Gs} {F : List (World → Prop)} {x : Option (Rc × Ps) × Int} {er : Int} (hx : x = (none, er)) (hw : Wk w0 wb w' ((S, SB D gb p own e er) :: L) G F) : OneSays w0 wb S D gb p own e L G F x (.returned (.tuple #[.agg #[.int .i64 0, .int .i64 0, .int .i64 0, .slice none 0 0, .slice none 0 0], .agg #[.int .i64 0, .int .i64 0, .int .i64 0, .int .i64 0, .int .i64 0], .bool false])) w' := by
 subst hx
 exact ⟨rfl, hw⟩
end Go.Proofs.YtgcfdjcpcclcjaaGreat
namespace Go.Kn
open Go Go.RowKit
/-- a record that was told, and where it stands -/
structure Fnd where
 p : Ps
 r : Rc
 s : Option Addr × Nat × Nat
 t : Option Addr × Nat × Nat
def Fnd.enc (x : Fnd) : Array Value := #[.agg #[.int .i64 x.p.s, .int .i64 x.p.o, .int .i64 x.p.l, .int .i64 x.p.p, .int .i64 x.p.m], .agg (x.r.cells x.s x.t)]
def Fnd.fct (x : Fnd) : World → Prop := fun W => RcAt W x.r x.s x.t
def Fnd.pr (x : Fnd) : Ps × Rc := (x.p, x.r)
theorem scanG_some {d : Dk} {c : Cf} {k : Nat} {p q : Ps} {r : Rc} {e : Int} (h : follow d c p = (some (r, q), e)) : scanG d c (k + 1) p = if (nextOf r).isSome then ([(p, r)], q, 0) else ((p, r) :: (scanG d c k q).1, (scanG d c k q).2) := by
 rw [scanG, h]
theorem scanG_none {d : Dk} {c : Cf} {k : Nat} {p : Ps} {e : Int} (h : follow d c p = (none, e)) : scanG d c (k + 1) p = ([], p, e) := by
 rw [scanG, h]
theorem follow_place {d : Dk} {c : Cf} {p q : Ps} {r : Rc} {e : Int} (h : follow d c p = (some (r, q), e)) : q.s = p.s ∧ p.o < q.o ∧ q.o ≤ c.l ∧ e = 0 := by
 unfold follow at h
 split at h
 ·split at h
  ·split at h
   ·cases h
   ·rename_i hs
    split at h
    ·split at h
     ·cases h
     ·split at h
      ·injection h with h1 h2
       injection h1 with h1
       injection h1 with h1 h3
       subst h3
       simp only
       refine ⟨trivial, ?_, ?_, h2.symm⟩ <;> omega
      ·cases h
    ·cases h
  ·cases h
 ·cases h
end Go.Kn
namespace Go.Kn
open Go Go.RowKit
def Fnd.one (x : Fnd) : List Value := .int .i64 x.p.o :: (x.r.cells x.s x.t).toList
theorem Wk.gnew {w0 w1 w : World} {L : List (Nat × List Value)} {G : List Gs} {F : List (World → Prop)} (h : Wk w0 w1 w L G F) (e sz : Nat) : Wk w0 w1 w L (⟨e, sz, .slice none 0 0, 0, []⟩ :: G) F := h.same (h.toWc.gnew e sz)
theorem kf_of_kb {B : Nat} {X Y : World} (h : Kb X.heap.size X Y) : KeepsFrom B X Y := ⟨h.size, fun k o _ ho hc => h.keep k o (lt_of_obj ho) ho hc⟩
end Go.Kn
namespace Go.Proofs.YtgcfdjcpcclcjaaGreat
open Go Go.RowKit Go.Kn Go.Shelf
attribute [local go_sem] Oper.semAt_some
def fndV (xs : List Fnd) : List Value := xs.flatMap Kn.Fnd.one
end Go.Proofs.YtgcfdjcpcclcjaaGreat
namespace Go.Kn
open Go Go.RowKit
theorem wpList_copy_full {P : Program} {w : World} {ops : Array Oper} {rest : List Oper} {o : Oper} {a : Act} {Q : Exit → Act → World → Prop} (hgd : o.guard = none) (d s : Operand) (dT sT : TypeId)
  (ho : o.op = .call { callee := .builtin .copy, args := #[d, s], argTypes := #[dT, sT] }) (elem : TypeId) (hu : P.underlying dT = some (.slice elem)) (hsz : (P.info? elem).map (·.size) = some 1)
  (g m : Nat) (sp : Option Addr) (sCap : Nat) (hed : a.eval d = .slice (some ⟨g, 0, none⟩) m m) (hes : a.eval s = .slice sp m sCap)
  (cur : Array Value) (xs : List Value) (hs : Row1 w sp m sCap xs) (hx1 : ∀ u ∈ xs, u.oneCell' = true) (hc : w.heap[g]? = some (.cells cur elem (0, 0))) (hcs : cur.size = m) (hm : 0 < m) (hml : m ≤ maxLen) (base : Nat) (hb : base ≤ g)
  (h : ∀ w', w'.ownsRow base elem 1 (.slice (some ⟨g, 0, none⟩) m m) m xs → Only [g] w w' → wpList P ops Q rest (a.put o.dst (goInt m)) w') : wpList P ops Q (o :: rest) a w := by
 refine wpList_plain hgd fun K hK => ?_
 have hl := hs.len
 obtain ⟨ga, oa, rfl, _⟩ := hs.at_ (by omega)
 have hrun := run_copy_row (P := P) w dT sT o.type elem g 0 m m ⟨ga, oa, none⟩ m sCap cur elem xs hu hsz hc (by rw [hl]; exact (Nat.min_self m).symm) (hs.news rfl) (by omega) hx1
 rw [hl] at hrun
 unfold Oper.wp
 simp only [execOp, ho, resolve, invoke, builtin, hed, hes]
 have e1 : (cur.toList.take 0 ++ xs ++ cur.toList.drop (0 + m)).toArray = xs.toArray := by
  rw [List.take_zero, List.nil_append, List.drop_of_length_le (by simp; omega), List.append_nil]
 rw [e1] at hrun
 simp [hed, hes, hrun, Result.andThen, builtin]
 exact hK _ _ (h _ ⟨by omega, .inr ⟨g, m, xs.toArray, rfl, hb, setRow_heap w g _ _ elem _ hc, Nat.le_refl _, hml, by simp [hl], by simpa using List.take_of_length_le (by omega)⟩⟩ ⟨rfl, rfl, rfl, by simp [World.setRow], fun k _ hk => setRow_other w g k _ (by simpa using hk)⟩)
end Go.Kn
namespace Go.Proofs.YtgcfdjcpcclcjaaGreat
open Go Go.RowKit Go.Kn
set_option maxRecDepth 100000 in
theorem part64_own (A : Option Addr) (c : Nat) (bs : List UInt8) (w : World) (h : Bys w A 64 c bs) :
  Calls Tryz.prog 102 #[.slice A 64 c, .int .i64 0, .int .i64 64] w fun e w' => e = .returned (.slice (some ⟨w.heap.size, 0, none⟩) 64 64) ∧ w'.ownsRow w.heap.size 5 1 (.slice (some ⟨w.heap.size, 0, none⟩) 64 64) 64 (bvs bs) ∧ Only [] w w' := by
 have hlen := h.len
 rw [bvs_length] at hlen
 have hcm := h.cm
 have hcl := h.le
 unfold maxLen at hcm
 have hmk : ∀ w, (Instr.makeSlice 47 (.int .i64 64) (.int .i64 64)).run Tryz.prog w = .ok (.slice (some ⟨w.heap.size, 0, none⟩) 64 64) (w.alloc (.cells (bvs (List.replicate 64 0)).toArray 5)) := fun w => make_bys 64 (by omega) w
 have hsl := fun w => run_slice1 (P := Tryz.prog) w 47 5 Tryz.underlying47 (by kernel_rfl) A 64 c 0 64 0 64 64 .i64 .i64 rfl rfl (by omega) (by omega) (by omega)
 have hcut := (h.alloc (.cells (bvs (List.replicate 64 0)).toArray 5)).cut (l := 0) (m := 64) (by omega)
 rw [bvs_cut, List.drop_zero, List.take_of_length_le (by omega)] at hcut
 have HC := Lib.hid hcut
 have hown := World.alloc_heap_new w (.cells (bvs (List.replicate 64 0)).toArray 5)
 have HO := Lib.hid hown
 have HZ := Lib.hid (show (bvs (List.replicate 64 0)).toArray.size = 64 by simp)
 clear h hcut hown hlen
 generalize (bvs (List.replicate 64 0)).toArray = zs at *
 have hO0 : Only [] w (w.alloc (.cells zs 5)) := (Only.refl _ _).alloc _
 have HO0 := Lib.hid hO0
 clear hO0
 go_enter Tryz.func102, Tryz.ntmps102
 go_wp2_with (first
  | (with_reducible refine wpList_copy_full rfl (.tmp 12) (.tmp 16) 47 47 rfl 5 Tryz.underlying47 (by kernel_rfl) w.heap.size 64 (cutA A c 0) (c - 0) rfl rfl zs (bvs bs) HC.out (bvs_one _) HO.out HZ.out (by decide) (by decide) w.heap.size (Nat.le_refl _) ?_; intro w2 hown2 hO2))
 go_ret
 exact ⟨rfl, hown2, HO0.out.trans hO2 (by simp)⟩
set_option maxRecDepth 100000 in
set_option maxHeartbeats 4000000 in
theorem rk_read_own (w0 w : World) (r : RD) (d : Dk) (c : Fr3) (a : Int) (h : Rsk w0 w r d c) (hh : d.held.length ≤ 1000000) :
  Calls Tryz.prog 33 #[.pointer (some ⟨r.M, 0, none⟩), .int .i64 a] w (RdOwn w (d.read a) (d.err a)) := by
 obtain ⟨v, lv, kk, ls, sl, hs, hl, hm⟩ := h.mem
 have hbx := hm.boxi 0 (p := r.M) (cs := r.box v lv d) rfl
 have c0 := hbx.cell 0 (by simp [RD.box])
 have c1 := hbx.cell 1 (by simp [RD.box])
 have c2 := hbx.cell 2 (by simp [RD.box])
 have c4 := hbx.cell 4 (by simp [RD.box])
 simp only [RD.box, List.getElem_cons_zero, List.getElem_cons_succ] at c0 c1 c2 c4
 have hN := h.N
 have hF := h.ok.f
 have hn := h.ok.n
 have hN1 : 1 ≤ r.N ∧ r.N ≤ 4096 := by omega
 obtain ⟨hN1, hN2⟩ := hN1
 have HHA := Lib.hid (has_iff hN a)
 by_cases ho : d.has a = true
 ·have hr : 0 ≤ a ∧ a < (r.N : Int) := by unfold Dk.has at ho; simp only [decide_eq_true_eq] at ho; omega
  obtain ⟨k, rfl⟩ : ∃ k : Nat, a = k := ⟨a.toNat, by omega⟩
  have hkN : k < r.N := by omega
  have HO := Lib.hid ho
  by_cases hof : d.off = true
  ·obtain ⟨e1, e2⟩ := Dk.err_off ho hof
   rw [e1, e2]
   rw [hof] at c4
   clear hm hbx h hN hF hn ho hof e1 e2 c1 c2 hl
   go_enter Tryz.func33, Tryz.ntmps33
   go_wp2_with fail
   refine (within_any (k : Int) 0 ((r.N : Int) - 1) _).mono ?_
   rintro e w1 ⟨rfl, rfl⟩
   rw [HHA.out, HO.out]
   go_wp2
   go_ret2
   exact RdOwn.none _ _
  ·rw [Bool.not_eq_true] at hof
   have hfb := hm.boxi 2 (p := r.f) (cs := bls d.faults) rfl
   have hbl : k < (bls d.faults).length := by rw [bls_length]; omega
   have q0 := hfb.cell k hbl
   have hbg : (bls d.faults)[k] = .bool (d.bad k) := by
    unfold Dk.bad
    rw [bls_get, List.getD_eq_getElem?_getD, show ((k : Int)).toNat = k from by omega, List.getElem?_eq_getElem (by omega), Option.getD_some]
   rw [hbg] at q0
   rw [hof] at c4
   by_cases hb : d.bad k = true
   ·obtain ⟨e1, e2⟩ := Dk.err_bad ho hof hb
    rw [e1, e2]
    rw [hb] at q0
    clear hm hbx hfb h hN hF hn ho hof e1 e2 c1 hbg hbl hb hl
    go_enter Tryz.func33, Tryz.ntmps33
    go_wp2_with fail
    refine (within_any (k : Int) 0 ((r.N : Int) - 1) _).mono ?_
    rintro e w1 ⟨rfl, rfl⟩
    rw [HHA.out, HO.out]
    go_wp2
    go_ret2
    exact RdOwn.none _ _
   ·rw [Bool.not_eq_true] at hb
    obtain ⟨e1, e2⟩ := Dk.err_ok ho hof hb
    have hsec : d.sector k = (Dk.over d.safe (d.held.take d.held.length)).getD k [] := by
     rw [List.take_length]
     rfl
    rw [e1, e2, hsec]
    have HLS : Hid ((d.sector k).length = 64) := Lib.hid (Dk.sector_64 h.ok ho)
    rw [hsec] at HLS
    rw [hb] at q0
    have hsb := hm.boxi 1 (p := r.s) (cs := sl.map slv) rfl
    have hB1 := hm.fi 0 rfl
    have hB2 := hm.fi 1 rfl
    have hkl : k < sl.length := by rw [hB1.1]; omega
    have q1 := hsb.cell k (by simpa using hkl)
    rw [List.getElem_map] at q1
    have hs0 := hB1.2 k hkl (by omega)
    obtain ⟨⟨A0, n0, k0⟩, hsl⟩ : ∃ s, sl[k] = s := ⟨_, rfl⟩
    rw [hsl] at q1 hs0
    obtain rfl : n0 = 64 := by
     have h1 := hs0.len
     have h2 := h.ok.s d.safe[k] (List.getElem_mem _)
     rw [bvs_length] at h1
     have h3 : d.safe[k].length = n0 := h1
     omega
    have hs1 : Bys w A0 64 k0 ((Dk.over d.safe (d.held.take 0)).getD k []) := by
     have : (Dk.over d.safe (d.held.take 0)).getD k [] = d.safe[k] := by
      rw [List.take_zero]
      show d.safe.getD k [] = _
      rw [List.getD_eq_getElem?_getD, List.getElem?_eq_getElem (by omega), Option.getD_some]
     rw [this]
     exact hs0
    have HS1 := Lib.hid hs1
    obtain ⟨Ah, ch, rfl⟩ := hm.gform 0 rfl
    obtain ⟨A', c', hv, _, _, hcl, _⟩ := (hm.gath (x := ⟨175, 2, .slice Ah d.held.length ch, d.held.length, heldR d.held hs⟩) List.mem_cons_self).form (by show 0 < 2; omega)
    injection hv with e1 e2 e3
    subst e1 e3
    have HCL := Lib.hid hcl
    have HB2 := Lib.hid hB2
    have HHL := Lib.hid hl
    have H := Lib.hid h
    obtain ⟨n, hhn⟩ : ∃ n, d.held.length = n := ⟨_, rfl⟩
    rw [hhn] at c1 hh
    have HHN := Lib.hid hhn
    simp only [slv] at q1
    clear hm hbx hfb h hN hF hn ho hof e1 e2 hbg hbl hb hl hsec hsb hB1 hB2 hkl hs0 hsl hs1 hcl hhn
    go_enter Tryz.func33, Tryz.ntmps33
    go_wp2_with fail
    refine (within_any (k : Int) 0 ((r.N : Int) - 1) _).mono ?_
    rintro e w1 ⟨rfl, rfl⟩
    rw [HHA.out, HO.out]
    go_wp2_with fail
    rw [HHN.out]
    go_loopg [6, 7] n (fun r t6 i wr => ∃ (j : Nat) (A : Option Addr) (cc : Nat), j + r = n ∧ i = .int .i64 j ∧ t6 = .slice A 64 cc ∧ wr = w ∧ Bys w A 64 cc ((Dk.over d.safe (d.held.take j)).getD k []))
    case atStart => exact ⟨0, A0, k0, by omega, rfl, rfl, rfl, HS1.out⟩
    obtain ⟨j, A, cc, hj, rfl, rfl, rfl, hby⟩ := hrel
    have HBY := Lib.hid hby
    clear hby q1 q0
    by_cases hlt : j < n
    ·have hjl : j < d.held.length := by rw [HHN.out]; exact hlt
     obtain ⟨g, rfl, _, _, hcells⟩ := HCL.out (by omega)
     obtain ⟨g0, g1⟩ := heldR_get d.held hs HHL.out.symm j hjl
     have y0 := hcells _ _ g0
     have y1 := hcells _ _ g1
     have hjh : j < hs.length := by rw [HHL.out]; exact hjl
     have hbb := HB2.out.2 j hjh (by simpa using hjl)
     rw [List.getElem_map] at hbb
     have h64 := (H.out.ok.h d.held[j] (List.getElem_mem _)).2
     have hov := over_at d.safe d.held j k hjl (by rw [H.out.N]; exact hkN)
     obtain ⟨⟨A1, n1, k1⟩, hs1⟩ : ∃ s, hs[j] = s := ⟨_, rfl⟩
     rw [hs1] at y1 hbb
     obtain rfl : n1 = 64 := by
      have h1 := hbb.len
      rw [bvs_length] at h1
      have h3 : d.held[j].2.length = n1 := h1
      omega
     simp only [slv] at y1
     rw [Nat.mul_comm 2 j] at y0 y1
     have HOV := Lib.hid hov
     have HBB := Lib.hid hbb
     have hlt2 : (j : Int) < (n : Int) := by omega
     generalize d.held[j].1 = x at *
     generalize d.held[j].2 = b at *
     clear hcells g0 g1 hbb h64 hov hs1 hjl hjh
     by_cases hx : x = k
     ·subst hx
      clear c0 c2 c4
      go_wp2_with fail
      go_roundg (gk - 1)
      case measure => omega
      case rel => exact ⟨j + 1, A1, k1, by omega, by go_num, rfl, rfl, by rw [HOV.out, if_pos trivial]; exact HBB.out⟩
     ·have hx2 : ((x : Int) == (k : Int)) = false := by simp; omega
      have HX := Lib.hid hx
      clear hx c0 c2 c4
      go_wp2_with fail
      go_roundg (gk - 1)
      case measure => omega
      case rel => exact ⟨j + 1, A, cc, by omega, by go_num, rfl, rfl, by rw [HOV.out, if_neg HX.out]; exact HBY.out⟩
    ·obtain rfl : j = n := by omega
     clear c0 c2 c4
     have hnn := HHN.out
     go_wp2_with fail
     refine (part64_own A cc _ _ HBY.out).mono ?_
     rintro en wa ⟨rfl, ho7, hO⟩
     rw [← HHN.out] at ho7
     have HF := Lib.hid ho7
     have HO9 := Lib.hid hO
     clear ho7 hO hnn
     go_wp2
     go_ret2
     rw [← HHN.out]
     exact ⟨_, 64, rfl, HF.out, HO9.out⟩
 ·rw [Bool.not_eq_true] at ho
  obtain ⟨e1, e2⟩ := Dk.err_no ho
  rw [e1, e2]
  have HO := Lib.hid ho
  clear hm hbx h hN hF hn ho e1 e2 c1 c2 c4 hl
  go_enter Tryz.func33, Tryz.ntmps33
  go_wp2_with fail
  refine (within_any a 0 ((r.N : Int) - 1) _).mono ?_
  rintro e w1 ⟨rfl, rfl⟩
  rw [HHA.out, HO.out]
  go_wp2
  go_ret2
  exact RdOwn.none _ _
end Go.Proofs.YtgcfdjcpcclcjaaGreat
namespace Go.Kn
open Go Go.RowKit
/-- two boxes and a row that is read -/
structure Dr2 (w0 w : World) (p g k f fr : Nat) (bs : List UInt8) (vs us : List Value) : Prop where
 d : Decs w0 w p g k f bs vs
 r : Kn.Own w fr us
 rp : fr ≠ p
 rf : fr ≠ f
 hr : w0.heap.size ≤ fr
section
variable {w0 w w' : World} {p g k k' f fr : Nat} {bs : List UInt8} {vs us : List Value}
theorem Dr2.keep (h : Dr2 w0 w p g k f fr bs vs us) (hO : Only [] w w') : Dr2 w0 w' p g k f fr bs vs us := ⟨h.d.keep hO, h.r.keep0 hO, h.rp, h.rf, h.hr⟩
theorem Dr2.got (h : Dr2 w0 w p g k f fr bs vs us) (hr : RowAt w' p g bs k') (hO : Only [p] w w') : Dr2 w0 w' p g k' f fr bs vs us := ⟨h.d.got hr hO, h.r.keep hO (by simpa using h.rp), h.rp, h.rf, h.hr⟩
theorem Dr2.place (h : Dr2 w0 w p g k f fr bs vs us) (hk : k' ≤ bs.length) : Dr2 w0 (w.setCell ⟨p, 1, none⟩ (.int .i64 (k' : Int))) p g k' f fr bs vs us := ⟨h.d.place hk, h.r.far (Ne.symm h.rp) _, h.rp, h.rf, h.hr⟩
theorem Dr2.put (h : Dr2 w0 w p g k f fr bs vs us) (i : Nat) (u : Value) : Dr2 w0 (w.setCell ⟨f, i, none⟩ u) p g k f fr bs (vs.set i u) us := ⟨h.d.put i u, h.r.far (Ne.symm h.rf) _, h.rp, h.rf, h.hr⟩
end
end Go.Kn
namespace Go.Proofs.YtgcfdjcpcclcjaaGreat
open Go Go.RowKit Go.Kn
def FolSays (w : World) (q : Ps) (x : Option (Rc × Ps) × Int) (en : Ending) (w' : World) : Prop := Only [] w w' ∧
 match x with
 | (none, er) => en = .returned (.tuple #[.agg #[.int .i64 0, .int .i64 0, .int .i64 0, .slice none 0 0, .slice none 0 0], .agg #[.int .i64 q.s, .int .i64 q.o, .int .i64 q.l, .int .i64 q.p, .int .i64 q.m], .bool false, .int .i64 er])
 | (some (r, nx), _) => ∃ s t, en = .returned (.tuple #[.agg (r.cells s t), .agg #[.int .i64 nx.s, .int .i64 nx.o, .int .i64 nx.l, .int .i64 nx.p, .int .i64 nx.m], .bool true, .int .i64 0]) ∧ Fc w' (fun k => k < w.heap.size) (fun W => RcAt W r s t)
theorem FolSays.no {w w' : World} {q : Ps} {x : Option (Rc × Ps) × Int} {er : Int} (hx : x = (none, er)) (hw : Only [] w w') : FolSays w q x (.returned (.tuple #[.agg #[.int .i64 0, .int .i64 0, .int .i64 0, .slice none 0 0, .slice none 0 0], .agg #[.int .i64 q.s, .int .i64 q.o, .int .i64 q.l, .int .i64 q.p, .int .i64 q.m], .bool false, .int .i64 er])) w' := by
 subst hx
 exact ⟨hw, rfl⟩
end Go.Proofs.YtgcfdjcpcclcjaaGreat
namespace Go.Proofs.YtgcfdjcpcclcjaaGreat
open Go Go.RowKit Go.Kn
theorem _root_.Go.Proofs.YtgcfdjcpcclcjaaGreat.Rsk.fr {w0 w : World} {r : RD} {d : Dk} {c : Fr3} (h : Rsk w0 w r d c) : ∃ L0 G0 F0, Wc w0 w (c.L ++ L0) (c.G ++ G0) (c.F ++ F0) ∧ ∀ w' (c' : Fr3), Wc w0 w' (c'.L ++ L0) (c'.G ++ G0) (c'.F ++ F0) → Rsk w0 w' r d c' := by
 obtain ⟨v, lv, k, ls, sl, hs, hl, hm⟩ := h.mem
 have pl : ∀ L, (r.L v lv sl d L).Perm (L ++ r.L v lv sl d []) := fun L => by
  have := List.perm_append_comm (l₁ := r.L v lv sl d []) (l₂ := L)
  simpa [RD.L] using this
 have pg : ∀ (a b : Gs) G, (a :: b :: G).Perm (G ++ [a, b]) := fun a b G => by
  have := List.perm_append_comm (l₁ := [a, b]) (l₂ := G)
  simpa using this
 refine ⟨r.L v lv sl d [], [⟨175, 2, v, d.held.length, heldR d.held hs⟩, ⟨47, 1, lv, k.val, ls⟩], [(fun W => Bls W sl d.safe), (fun W => Bls W hs (d.held.map (·.2)))], ?_, fun w' c' h' => ?_⟩
 ·refine (hm.perm (pl _) (pg _ _ _)).subF ?_
  intro f hf
  rcases List.mem_append.1 hf with hf | hf
  ·exact List.mem_cons_of_mem _ (List.mem_cons_of_mem _ hf)
  ·simp only [List.mem_cons, List.not_mem_nil, or_false] at hf ⊢
   rcases hf with hf | hf
   ·exact .inl hf
   ·exact .inr (.inl hf)
 ·refine ⟨h.ok, h.N, h.hs, h.hf, v, lv, k, ls, sl, hs, hl, (h'.perm (pl _).symm (pg _ _ _).symm).subF ?_⟩
  intro f hf
  simp only [List.mem_cons] at hf
  rcases hf with hf | hf | hf
  ·exact List.mem_append.2 (.inr (by simp [hf]))
  ·exact List.mem_append.2 (.inr (by simp [hf]))
  ·exact List.mem_append.2 (.inl hf)
def rfnd (x : Fnd) : List Value := [.int .i64 x.p.s, .int .i64 x.p.o, .int .i64 x.p.l, .int .i64 x.p.p, .int .i64 x.p.m] ++ (x.r.cells x.s x.t).toList
def rfndV (xs : List Fnd) : List Value := xs.flatMap rfnd
end Go.Proofs.YtgcfdjcpcclcjaaGreat
namespace Go.Kn
open Go Go.RowKit
theorem GeoAt.keep {S : List Nat} {w w' : World} {p : Nat} {b s l : Int} (h : GeoAt w p b s l) (hO : Only S w w') (hp : p ∉ S) : GeoAt w' p b s l := ⟨hO.cell h.c0 hp, hO.cell h.c1 hp, hO.cell h.c2 hp⟩
end Go.Kn
namespace Go.Proofs.YtgcfdjcpcclcjaaGreat
open Go Go.RowKit Go.Kn
set_option maxRecDepth 100000 in
set_option maxHeartbeats 4000000 in
theorem geom_new_any (b s l : Int) (w : World) (hb : CfOk b s l) :
  Calls Tryz.prog 75 #[.agg #[.int .i64 b, .int .i64 s, .int .i64 l]] w fun e w' => ∃ p, e = .returned (.tuple #[.pointer (some ⟨p, 0, none⟩), .int .i64 0]) ∧ w.heap.size ≤ p ∧ GeoAt w' p b s l ∧ Only [] w w' := by
 obtain ⟨h1, h2, h3⟩ := hb
 have H1 : Hid (decide (1 ≤ b ∧ b ≤ 64) = true) := Lib.hid (decide_eq_true h1)
 have H2 : Hid (decide (8 ≤ s ∧ s ≤ 32) = true) := Lib.hid (decide_eq_true h2)
 have H3 : Hid (decide (24 ≤ l ∧ l ≤ 64) = true) := Lib.hid (decide_eq_true h3)
 clear h1 h2 h3
 go_enter Tryz.func75, Tryz.ntmps75
 go_wp2_with (go_at_call 140; refine (geom_within_any _ _ _ _).mono ?_; rintro e w' ⟨rfl, rfl⟩; first | rw [H1.out] | rw [H2.out] | rw [H3.out])
 go_ret2
 have hs : (w.alloc (.cells #[.int .i64 b, .int .i64 s, .int .i64 l] 25)).heap.size = w.heap.size + 1 := by simp
 have hO := Own.new (w.alloc (.cells #[.int .i64 b, .int .i64 s, .int .i64 l] 25)) #[.int .i64 b, .int .i64 s, .int .i64 l] 149
 rw [hs] at hO
 exact ⟨w.heap.size + 1, rfl, by omega, ⟨hO.cell 0 (by simp), hO.cell 1 (by simp), hO.cell 2 (by simp)⟩, ((Only.refl _ _).alloc _).alloc _⟩
end Go.Proofs.YtgcfdjcpcclcjaaGreat
namespace Go.Kn
open Go Go.RowKit
theorem flatMap_get {α β : Type} (f : α → List β) (m : Nat) (hf : ∀ x, (f x).length = m) : ∀ (xs : List α) (i k : Nat) (hi : i < xs.length), k < m → (xs.flatMap f)[i * m + k]? = (f xs[i])[k]?
 | [], i, k, hi, _ => by simp at hi
 | x :: xs, 0, k, hi, hk => by
  rw [List.flatMap_cons, List.getElem?_append_left (by rw [hf]; omega)]
  simp
 | x :: xs, i + 1, k, hi, hk => by
  rw [List.flatMap_cons, List.getElem?_append_right (by rw [hf, Nat.add_mul]; omega), hf, show (i + 1) * m + k - m = i * m + k from by rw [Nat.add_mul]; omega]
  rw [flatMap_get f m hf xs i k (by simpa using hi) hk]
  simp
/-- a slice of what walk told -/
structure FdP (w : World) (A : Option Addr) (n c : Nat) (xs : List Fnd) : Prop where
 len : xs.length = n
 le : n ≤ c
 cm : c ≤ maxLen
 at_ : 0 < n → ∃ g o, A = some ⟨g, o, none⟩ ∧ ∀ i (h : i < xs.length), w.cell? ⟨g, o + i * 6, none⟩ = some (.int .i64 xs[i].p.o) ∧ w.cell? ⟨g, o + i * 6 + 1, none⟩ = some (.int .i64 xs[i].r.m) ∧ w.cell? ⟨g, o + i * 6 + 2, none⟩ = some (.int .i64 xs[i].r.n) ∧ w.cell? ⟨g, o + i * 6 + 3, none⟩ = some (.int .i64 xs[i].r.p) ∧ w.cell? ⟨g, o + i * 6 + 4, none⟩ = some (slv xs[i].s) ∧ w.cell? ⟨g, o + i * 6 + 5, none⟩ = some (slv xs[i].t)
 rc : ∀ y ∈ xs, y.fct w
structure FdR (w : World) (A : Option Addr) (n c : Nat) (xs : List Fnd) : Prop where
 len : xs.length = n
 le : n ≤ c
 cm : c ≤ maxLen
 at_ : 0 < n → ∃ g o, A = some ⟨g, o, none⟩ ∧ ∀ i (h : i < xs.length), w.cell? ⟨g, o + i * 10 + 0, none⟩ = some (.int .i64 xs[i].p.s) ∧ w.cell? ⟨g, o + i * 10 + 1, none⟩ = some (.int .i64 xs[i].p.o) ∧ w.cell? ⟨g, o + i * 10 + 5, none⟩ = some (.int .i64 xs[i].r.m) ∧ w.cell? ⟨g, o + i * 10 + 6, none⟩ = some (.int .i64 xs[i].r.n) ∧ w.cell? ⟨g, o + i * 10 + 7, none⟩ = some (.int .i64 xs[i].r.p) ∧ w.cell? ⟨g, o + i * 10 + 8, none⟩ = some (slv xs[i].s) ∧ w.cell? ⟨g, o + i * 10 + 9, none⟩ = some (slv xs[i].t)
 rc : ∀ y ∈ xs, y.fct w
theorem cells_owns {w : World} {b e sz n : Nat} {A : Option Addr} {c : Nat} {xs : List Value} (h : w.ownsRow b e sz (.slice A n c) n xs) : n ≤ c ∧ c ≤ maxLen ∧ (0 < n → ∃ g, A = some ⟨g, 0, none⟩ ∧ ∀ j u, xs[j]? = some u → w.cell? ⟨g, j, none⟩ = some u) := by
 obtain ⟨h1, h2⟩ := h
 rcases h2 with ⟨h2, h3⟩ | ⟨g, cap, cur, hv, _, hg, h5, h6, h7, h8⟩
 ·injection h2 with _ e2 e3
  exact ⟨by omega, by omega, fun hn => by omega⟩
 ·injection hv with e1 e2 e3
  subst e1 e3
  refine ⟨h5, h6, fun hn => ⟨g, rfl, fun j u hj => ?_⟩⟩
  rw [← h8, List.getElem?_take] at hj
  split at hj
  ·unfold World.cell?
   simp only [hg]
   simpa using hj
  ·cases hj
end Go.Kn
namespace Go.Proofs.YtgcfdjcpcclcjaaGreat
open Go Go.RowKit Go.Kn
theorem FdP.of_owns {w : World} {b e : Nat} {A : Option Addr} {c : Nat} {xs : List Fnd} (h : w.ownsRow b e 6 (.slice A xs.length c) xs.length (fndV xs)) (hr : ∀ y ∈ xs, y.fct w) : FdP w A xs.length c xs := by
 obtain ⟨h1, h2, h3⟩ := cells_owns h
 refine ⟨rfl, h1, h2, fun hn => ?_, hr⟩
 obtain ⟨g, rfl, hc⟩ := h3 hn
 refine ⟨g, 0, rfl, fun i hi => ?_⟩
 have hk : ∀ k, k < 6 → (fndV xs)[i * 6 + k]? = (Kn.Fnd.one xs[i])[k]? := fun k hk => flatMap_get Kn.Fnd.one 6 (fun x => rfl) xs i k hi hk
 simp only [Nat.zero_add]
 exact ⟨hc _ _ ((hk 0 (by decide)).trans rfl), hc _ _ ((hk 1 (by decide)).trans rfl), hc _ _ ((hk 2 (by decide)).trans rfl), hc _ _ ((hk 3 (by decide)).trans rfl), hc _ _ ((hk 4 (by decide)).trans rfl), hc _ _ ((hk 5 (by decide)).trans rfl)⟩
theorem FdR.of_owns {w : World} {b e : Nat} {A : Option Addr} {c : Nat} {xs : List Fnd} (h : w.ownsRow b e 10 (.slice A xs.length c) xs.length (rfndV xs)) (hr : ∀ y ∈ xs, y.fct w) : FdR w A xs.length c xs := by
 obtain ⟨h1, h2, h3⟩ := cells_owns h
 refine ⟨rfl, h1, h2, fun hn => ?_, hr⟩
 obtain ⟨g, rfl, hc⟩ := h3 hn
 refine ⟨g, 0, rfl, fun i hi => ?_⟩
 have hk : ∀ k, k < 10 → (rfndV xs)[i * 10 + k]? = (rfnd xs[i])[k]? := fun k hk => flatMap_get rfnd 10 (fun x => rfl) xs i k hi hk
 simp only [Nat.zero_add]
 exact ⟨hc _ _ ((hk 0 (by decide)).trans rfl), hc _ _ ((hk 1 (by decide)).trans rfl), hc _ _ ((hk 5 (by decide)).trans rfl), hc _ _ ((hk 6 (by decide)).trans rfl), hc _ _ ((hk 7 (by decide)).trans rfl), hc _ _ ((hk 8 (by decide)).trans rfl), hc _ _ ((hk 9 (by decide)).trans rfl)⟩
theorem alike_config_small (z0 z1 z2 : Int) (w : World) (h0 : (Lit.int .i64 z0).wf = true) (h1 : (Lit.int .i64 z1).wf = true) (h2 : (Lit.int .i64 z2).wf = true) :
    Calls Tryz.prog 31 #[.agg #[.int .i64 z0, .int .i64 z1, .int .i64 z2], .bool true] w fun e w' => e = .returned (.agg #[.int .i64 (1 + z0 % 24), .int .i64 (8 + z1 % 3), .int .i64 (24 + z2 % 4)]) ∧ Only [] w w' := by
  have H0 := Lib.hid h0
  have H1 := Lib.hid h1
  have H2 := Lib.hid h2
  have hres : Tryz.f31.results = #[.cell 4 25] := by kernel_rfl
  have HRES := Lib.hid hres
  clear h0 h1 h2 hres
  have hw0 := IntWalk.i64_in (1 + z0 % 24) (by omega)
  have hw1 := IntWalk.i64_in (8 + z1 % 3) (by omega)
  have hw2 := IntWalk.i64_in (24 + z2 % 4) (by omega)
  go_enter Tryz.func31, Tryz.ntmps31
  go_wp2_with fail
  have HW := Lib.hid (((Only.refl [] w).alloc (.cells #[.int .i64 z0, .int .i64 z1, .int .i64 z2] 71)).alloc (.cells #[.int .i64 0, .int .i64 0, .int .i64 0] 25))
  have c0 : ((w.alloc (.cells #[.int .i64 z0, .int .i64 z1, .int .i64 z2] 71)).alloc (.cells #[.int .i64 0, .int .i64 0, .int .i64 0] 25)).cell? ⟨w.heap.size, 0, none⟩ = some (.int .i64 z0) := by simp
  have c1 : ((w.alloc (.cells #[.int .i64 z0, .int .i64 z1, .int .i64 z2] 71)).alloc (.cells #[.int .i64 0, .int .i64 0, .int .i64 0] 25)).cell? ⟨w.heap.size, 1, none⟩ = some (.int .i64 z1) := by simp
  have c2 : ((w.alloc (.cells #[.int .i64 z0, .int .i64 z1, .int .i64 z2] 71)).alloc (.cells #[.int .i64 0, .int .i64 0, .int .i64 0] 25)).cell? ⟨w.heap.size, 2, none⟩ = some (.int .i64 z2) := by simp
  go_region_held3 (fun w' => w'.cell? ⟨w.heap.size, 0, none⟩ = some (.int .i64 z0) ∧ w'.cell? ⟨w.heap.size, 1, none⟩ = some (.int .i64 z1) ∧ w'.cell? ⟨w.heap.size, 2, none⟩ = some (.int .i64 z2))
    (first | exact ⟨c0, c1, c2⟩ | go_keep)
    (first
    | (go_at_call 21; refine (round_any _ _ _ (by first | exact H0.out | exact H1.out | exact H2.out) (by decide) (by decide)).mono ?_
       rintro e w' ⟨rfl, rfl⟩))
  go_wp2
  (try simp only [Exit.inBlock, Exit.then])
  refine bodyPost_ret (v := .agg #[.int .i64 (1 + z0 % 24), .int .i64 (8 + z1 % 3), .int .i64 (24 + z2 % 4)]) ?_ rfl ⟨rfl, ?_⟩
  · simp only [results, HRES.out]
    go_simp
  · exact (((Only.refl _ _).alloc _).alloc _).drew
end Go.Proofs.YtgcfdjcpcclcjaaGreat
namespace Go.Kn
open Go Go.RowKit
/-- sectors with rows of 64 bytes laid over them from one on -/
def setSecs (s : List (List UInt8)) (a : Nat) (b : List UInt8) : Nat → List (List UInt8)
 | 0 => s
 | i + 1 => (setSecs s a b i).set (a + i) ((b.drop (64 * i)).take 64)
@[simp] theorem setSecs_length (s : List (List UInt8)) (a : Nat) (b : List UInt8) : ∀ n, (setSecs s a b n).length = s.length
 | 0 => rfl
 | n + 1 => by rw [setSecs, List.length_set, setSecs_length s a b n]
theorem setSecs_other (s : List (List UInt8)) (a : Nat) (b : List UInt8) (k : Nat) : ∀ n, k < a ∨ a + n ≤ k → (setSecs s a b n)[k]? = s[k]?
 | 0, _ => rfl
 | n + 1, h => by rw [setSecs, List.getElem?_set_ne (by omega), setSecs_other s a b k n (by omega)]
theorem setSecs_at (s : List (List UInt8)) (a : Nat) (b : List UInt8) (i : Nat) : ∀ n, i < n → a + i < s.length → (setSecs s a b n)[a + i]? = some ((b.drop (64 * i)).take 64)
 | 0, h, _ => absurd h (by omega)
 | n + 1, h, hl => by
  rw [setSecs]
  by_cases e : i = n
  ·subst e
   rw [List.getElem?_set_self (by rw [setSecs_length]; exact hl)]
  ·rw [List.getElem?_set_ne (by omega), setSecs_at s a b i n (by omega) hl]
/-- a disk with power and no faults -/
structure Rdy (d : Dk) : Prop where
 ok : d.Ok
 live : d.Live
 bad : ∀ x, d.bad x = false
section
variable {d d' : Dk} {a : Int} {b : List UInt8} {n : Nat}
theorem Rdy.new {n : Nat} (h1 : 1 ≤ n) (h2 : n ≤ 4096) : Rdy (Dk.new n) := ⟨Dk.new_ok h1 h2, ⟨rfl, rfl⟩, fun x => by
 unfold Dk.bad Dk.new
 simp only
 rw [List.getD_eq_getElem?_getD, List.getElem?_replicate]
 split <;> rfl⟩
theorem Rdy.err (h : Rdy d) (x : Int) : d.err x = if d.has x = true then 0 else 1 := by
 unfold Dk.err
 rw [h.live.off, h.bad x]
 rfl
theorem Rdy.err0 (h : Rdy d) {x : Int} (hx : d.has x = true) : d.err x = 0 := by rw [h.err, if_pos hx]
theorem has_of {x : Int} (h0 : 0 ≤ x) (h1 : x < d.safe.length) : d.has x = true := by
 unfold Dk.has
 exact decide_eq_true ⟨h0, h1⟩
theorem Dk.write_go (hl : d.Live) (hh : d.has a = true) (hb : b.length = 64) : d.write a b = (d.wrote a b, 0) := by
 unfold Dk.write
 rw [hh, hb, hl.gone]
 rfl
theorem Rdy.write (h : Rdy d) (hh : d.has a = true) (hb : b.length = 64) : Rdy (d.write a b).1 ∧ (d.write a b).1.now = d.now.set a.toNat b ∧ (d.write a b).1.safe.length = d.safe.length := by
 have e := Dk.write_go h.live hh hb
 have hl := h.live.write a b
 rw [e] at hl ⊢
 exact ⟨⟨h.ok.wrote hh hb, hl, h.bad⟩, Dk.now_wrote d a b, rfl⟩
theorem Rdy.wrs (h : Rdy d) (ha : 0 ≤ a) (hb : 64 * n ≤ b.length) (hr : a + n ≤ d.safe.length) : ∀ i, i ≤ n → Rdy (d.wrs a b i) ∧ (d.wrs a b i).now = setSecs d.now a.toNat b i ∧ (d.wrs a b i).safe.length = d.safe.length
 | 0, _ => ⟨h, rfl, rfl⟩
 | i + 1, hi => by
  obtain ⟨h1, h2, h3⟩ := Rdy.wrs h ha hb hr i (by omega)
  have hw := h1.write (a := a + (i : Nat)) (b := (b.drop (64 * i)).take 64) (has_of (by omega) (by rw [h3]; omega)) (by rw [List.length_take, List.length_drop]; omega)
  refine ⟨hw.1, ?_, hw.2.2.trans h3⟩
  show ((d.wrs a b i).write (a + (i : Nat)) ((b.drop (64 * i)).take 64)).1.now = _
  rw [hw.2.1, h2, setSecs, show (a + (i : Nat)).toNat = a.toNat + i from by omega]
/-- what is put is on the disk -/
theorem Rdy.puts (h : Rdy d) (ha : 0 ≤ a) (hb : b.length = 64 * n) (hr : a + n ≤ d.safe.length) : Rdy (d.puts a b) ∧ (d.puts a b).now = setSecs d.now a.toNat b n ∧ (d.puts a b).safe.length = d.safe.length := by
 have hn : b.length / 64 = n := by omega
 obtain ⟨h1, h2, h3⟩ := h.wrs (b := b) ha (by omega) hr n (Nat.le_refl _)
 have hp : d.puts a b = (d.wrs a b n).flushed := by
  unfold Dk.puts
  rw [hn, h1.live.flush.1]
 have hnow : (d.wrs a b n).flushed.now = (d.wrs a b n).now := rfl
 have hsl : (d.wrs a b n).flushed.safe.length = (d.wrs a b n).safe.length := by show (d.wrs a b n).now.length = _; rw [Dk.now_length]
 rw [hp]
 exact ⟨⟨h1.ok.flushed, h1.live.flush.2.1, h1.bad⟩, hnow.trans h2, hsl.trans h3⟩
/-- some sectors are on both disks as they are -/
def Agr (d d' : Dk) (lo hi : Int) : Prop := ∀ x, lo ≤ x → x < hi → d'.err x = d.err x ∧ d'.read x = d.read x
theorem Agr.sub {lo hi lo' hi' : Int} (h : Agr d d' lo hi) (h1 : lo ≤ lo') (h2 : hi' ≤ hi) : Agr d d' lo' hi' := fun x hx hy => h x (by omega) (by omega)
theorem Agr.trans {d'' : Dk} {lo hi : Int} (h : Agr d d' lo hi) (k : Agr d' d'' lo hi) : Agr d d'' lo hi := fun x hx hy => ⟨(k x hx hy).1.trans (h x hx hy).1, (k x hx hy).2.trans (h x hx hy).2⟩
theorem read_now (h : Rdy d) (h' : Rdy d') (hs : d'.safe.length = d.safe.length) {x : Int} (hx : d'.now[x.toNat]? = d.now[x.toNat]?) : d'.err x = d.err x ∧ d'.read x = d.read x := by
 have hh : d'.has x = d.has x := by unfold Dk.has; rw [hs]
 have he : d'.err x = d.err x := by rw [h'.err, h.err, hh]
 refine ⟨he, ?_⟩
 unfold Dk.read
 rw [he]
 have : d'.sector x = d.sector x := by
  unfold Dk.sector
  rw [List.getD_eq_getElem?_getD, List.getD_eq_getElem?_getD, hx]
 rw [this]
theorem Rdy.puts_agr (h : Rdy d) (ha : 0 ≤ a) (hb : b.length = 64 * n) (hr : a + n ≤ d.safe.length) {lo hi : Int} (hlo : 0 ≤ lo) (hx : hi ≤ a ∨ a + n ≤ lo) : Agr d (d.puts a b) lo hi := by
 obtain ⟨h1, h2, h3⟩ := h.puts ha hb hr
 intro x hx1 hx2
 refine read_now h h1 h3 ?_
 rw [h2]
 exact setSecs_other _ _ _ _ _ (by omega)
theorem Rdy.read_sec (h : Rdy d) {x : Int} (hx : d.has x = true) {s : List UInt8} (hs : d.now[x.toNat]? = some s) : d.read x = s := by
 unfold Dk.read
 rw [if_pos (h.err0 hx)]
 unfold Dk.sector
 rw [List.getD_eq_getElem?_getD, hs, Option.getD_some]
theorem rdy_gerr (h : Rdy d) (ha : 0 ≤ a) : ∀ n : Nat, a + n ≤ d.safe.length → gerr d a n = 0
 | 0, _ => rfl
 | n + 1, hr => by
  have h1 := rdy_gerr h ha n (by omega)
  rw [gerr_succ, if_pos h1]
  exact h.err0 (has_of (by omega) (by omega))
theorem chunks (b : List UInt8) : ∀ n : Nat, 64 * n ≤ b.length → (List.range n).flatMap (fun i => (b.drop (64 * i)).take 64) = b.take (64 * n)
 | 0, _ => by simp
 | n + 1, h => by
  rw [List.range_succ, List.flatMap_append, chunks b n (by omega), List.flatMap_cons, List.flatMap_nil, List.append_nil, Nat.mul_succ, List.take_add]
theorem Rdy.puts_gat (h : Rdy d) (ha : 0 ≤ a) (hb : b.length = 64 * n) (hr : a + n ≤ d.safe.length) : gat (d.puts a b) a n = b ∧ gerr (d.puts a b) a n = 0 := by
 obtain ⟨h1, h2, h3⟩ := h.puts ha hb hr
 refine ⟨?_, rdy_gerr h1 ha n (by rw [h3]; exact hr)⟩
 have : ∀ m : Nat, m ≤ n → gat (d.puts a b) a m = (List.range m).flatMap (fun i => (b.drop (64 * i)).take 64) := by
  intro m
  induction m with
  | zero => intro _; rfl
  | succ m ih =>
   intro hm
   rw [gat_succ, ih (by omega), List.range_succ, List.flatMap_append, List.flatMap_cons, List.flatMap_nil, List.append_nil]
   congr 1
   refine h1.read_sec (has_of (by omega) (by rw [h3]; omega)) ?_
   rw [h2, show (a + (m : Nat)).toNat = a.toNat + m from by omega]
   exact setSecs_at _ _ _ _ _ (by omega) (by rw [Dk.now_length]; omega)
 replace this := this n (Nat.le_refl _)
 rw [this, chunks b n (by omega), List.take_of_length_le (by omega)]
theorem gat_agr {lo hi : Int} (h : Agr d d' lo hi) (hlo : lo ≤ a) : ∀ n : Nat, a + n ≤ hi → gat d' a n = gat d a n ∧ gerr d' a n = gerr d a n
 | 0, _ => ⟨rfl, rfl⟩
 | n + 1, hr => by
  obtain ⟨h1, h2⟩ := gat_agr h hlo n (by omega)
  obtain ⟨h3, h4⟩ := h (a + (n : Nat)) (by omega) (by omega)
  exact ⟨by rw [gat_succ, gat_succ, h1, h4], by rw [gerr_succ, gerr_succ, h2, h3]⟩
/-- .. even if behind the record they are others -/
theorem follow_agr2 {c : Cf} {q q' : Ps} {r : Rc} {e : Int} {lo hi : Int} (h : Agr d d' lo hi) (hlo : lo ≤ c.at_ q.s + q.o) (hf : follow d c q = (some (r, q'), e)) (hhi : c.at_ q.s + q'.o ≤ hi) : follow d' c q = (some (r, q'), e) := by
 have hf0 := hf
 obtain ⟨_, hp, _, _⟩ := follow_place hf0
 have hn : q'.o = q.o + (sizeRc (d.read (c.at_ q.s + q.o)) : Nat) := by
  unfold follow at hf
  split at hf
  ·split at hf
   ·split at hf
    ·cases hf
    ·split at hf
     ·split at hf
      ·cases hf
      ·split at hf
       ·injection hf with h1 h2
        injection h1 with h1
        injection h1 with h1 h3
        rw [← h3]
       ·cases hf
     ·cases hf
   ·cases hf
  ·cases hf
 obtain ⟨h1, h2⟩ := h (c.at_ q.s + q.o) hlo (by omega)
 obtain ⟨h3, h4⟩ := gat_agr h hlo (sizeRc (d.read (c.at_ q.s + q.o))) (by omega)
 rw [← hf0]
 unfold follow
 rw [h1, h2, h3, h4]
end
theorem rcHd_take (b : List UInt8) : rcHd (b.take 64) = rcHd b ∧ rcK (b.take 64) = rcK b := by
 have h1 : (b.take 64).take 2 = b.take 2 := by rw [List.take_take]; rfl
 have h2 : ((b.take 64).drop 14).take 1 = (b.drop 14).take 1 := by rw [List.drop_take, List.take_take]; rfl
 have h3 : ((b.take 64).drop 15).take 1 = (b.drop 15).take 1 := by rw [List.drop_take, List.take_take]; rfl
 unfold rcHd rcN rcK
 rw [h1, h2, h3]
 exact ⟨rfl, rfl⟩
theorem sizeRc_laid {r : Rc} (h : rcMay r = true) : sizeRc ((rcBytes r).take 64) = 1 + r.bl.length := by
 obtain ⟨h1, h2⟩ := rcOf_bytes h
 have hl := rcBytes_length h
 obtain ⟨⟨hm, hn, hp, h3, h6⟩, hi, hb, hf⟩ := rcMay_iff.1 h
 have hk : r.bl.length ≤ 6 := by have := loads_le r.its; omega
 obtain ⟨t1, t2⟩ := rcHd_take (rcBytes r)
 unfold rcFit at h2
 simp only [Bool.and_eq_true, decide_eq_true_eq] at h2
 unfold sizeRc
 rw [t1, t2, if_pos ⟨by rw [List.length_take]; omega, h2.1⟩, rcK_bytes hk]
/-- the record that was laid at a place follows it -/
theorem follow_laid {d : Dk} {c : Cf} {q : Ps} {r : Rc} (hr : rcMay r = true) (hg : gat d (c.at_ q.s + q.o) (1 + r.bl.length) = rcBytes r) (hge : gerr d (c.at_ q.s + q.o) (1 + r.bl.length) = 0) (hd : d.Ok)
  (h1 : 1 ≤ q.o) (h2 : q.o + (1 + r.bl.length : Nat) ≤ c.l) (hn : r.n = q.l) (hp : r.p = q.p) (hm : q.m ≤ r.m) : follow d c q = (some (r, ⟨q.s, q.o + (1 + r.bl.length : Nat), q.l + 1, (rcSum r : Nat), r.m⟩), 0) := by
 have he0 : d.err (c.at_ q.s + q.o) = 0 := by rw [← gerr_one]; exact gerr_le hge (by omega)
 have hs1 : d.read (c.at_ q.s + q.o) = (rcBytes r).take 64 := by
  have h64 := Dk.read_64 hd he0
  have : gat d (c.at_ q.s + q.o) (1 + r.bl.length) = d.read (c.at_ q.s + q.o) ++ gat d (c.at_ q.s + q.o + 1) r.bl.length := by
   unfold gat
   rw [Nat.add_comm 1, List.range_succ_eq_map, List.flatMap_cons, List.flatMap_map]
   congr 1
   ·simp
   ·congr 1
    funext i
    congr 1
    simp only [Nat.succ_eq_add_one]
    omega
  rw [← hg, this, List.take_left' h64]
 have hsz : sizeRc (d.read (c.at_ q.s + q.o)) = 1 + r.bl.length := by rw [hs1]; exact sizeRc_laid hr
 rw [follow_rec ⟨h1, by omega⟩ rfl he0 hsz (by omega) hge (by rw [hg]; exact dec_rc hr), if_pos ⟨hn, hp, hm⟩]
theorem sizeRc_zero : sizeRc (List.replicate 64 0) = 0 := by
 have : rcHd (List.replicate 64 0) = false := by decide
 unfold sizeRc
 rw [this]
 simp
theorem follow_zero {d : Dk} {c : Cf} {q : Ps} (he : d.err (c.at_ q.s + q.o) = 0) (hz : d.read (c.at_ q.s + q.o) = List.replicate 64 0) : follow d c q = (none, 0) := by
 by_cases h : 1 ≤ q.o ∧ q.o ≤ c.l - 1
 ·exact follow_size h rfl he (by rw [hz]; exact sizeRc_zero) (.inl rfl)
 ·exact follow_out h
/-- records that follow one another from a place on, none of which tells another segment -/
inductive Laid (d : Dk) (c : Cf) : Ps → List (Ps × Rc) → Ps → Prop
 | nil (q : Ps) : Laid d c q [] q
 | cons {q q1 q' : Ps} {r : Rc} {l : List (Ps × Rc)} : follow d c q = (some (r, q1), 0) → nextOf r = none → Laid d c q1 l q' → Laid d c q ((q, r) :: l) q'
theorem Laid.snoc {d : Dk} {c : Cf} {q q1 q2 : Ps} {r : Rc} {l : List (Ps × Rc)} (h : Laid d c q l q1) (hf : follow d c q1 = (some (r, q2), 0)) (hn : nextOf r = none) : Laid d c q (l ++ [(q1, r)]) q2 := by
 induction h with
 | nil q => exact .cons hf hn (.nil _)
 | cons h1 h2 _ ih => exact .cons h1 h2 (ih hf)
theorem Laid.place {d : Dk} {c : Cf} {q q' : Ps} {l : List (Ps × Rc)} (h : Laid d c q l q') : q'.s = q.s ∧ q.o + l.length ≤ q'.o := by
 induction h with
 | nil q => simp
 | cons h1 h2 _ ih =>
  obtain ⟨e1, e2, _, _⟩ := follow_place h1
  rw [List.length_cons]
  exact ⟨ih.1.trans e1, by omega⟩
theorem Laid.scan {d : Dk} {c : Cf} {q q' : Ps} {l : List (Ps × Rc)} (h : Laid d c q l q') : ∀ k, scanG d c (k + l.length) q = (l ++ (scanG d c k q').1, (scanG d c k q').2) := by
 induction h with
 | nil q => intro k; rfl
 | cons h1 h2 _ ih =>
  intro k
  rw [List.length_cons, ← Nat.add_assoc, scanG_some h1, h2]
  simp only [Option.isSome_none, Bool.false_eq_true, if_false]
  rw [ih k]
  rfl
theorem Laid.agr {d d' : Dk} {c : Cf} {q q' : Ps} {l : List (Ps × Rc)} {lo hi : Int} (h : Laid d c q l q') (ha : Agr d d' lo hi) (hlo : lo ≤ c.at_ q.s + q.o) (hhi : c.at_ q.s + q'.o ≤ hi) : Laid d' c q l q' := by
 induction h with
 | nil q => exact .nil q
 | cons h1 h2 h3 ih =>
  obtain ⟨e1, e2, _, _⟩ := follow_place h1
  obtain ⟨e3, e4⟩ := h3.place
  refine .cons (follow_agr2 ha hlo h1 (by omega)) h2 (ih (by rw [e1]; omega) (by rw [e1]; omega))
/-- gone through to its end -/
theorem Laid.told {d : Dk} {c : Cf} {q q' : Ps} {l : List (Ps × Rc)} {e : Int} (h : Laid d c q l q') (hq : 1 ≤ q.o) (hq' : q'.o ≤ 64) (hf : follow d c q' = (none, e)) : scanG d c 65 q = (l, q', e) := by
 obtain ⟨_, h2⟩ := h.place
 obtain ⟨k, hk⟩ : ∃ k, 65 = k + 1 + l.length := ⟨64 - l.length, by omega⟩
 rw [hk, h.scan (k + 1), scanG_none hf, List.append_nil]
end Go.Kn
namespace Go.Kn
open Go Go.RowKit
theorem may_k (k b c v : Int) : (It.mk k b c v).may = true ↔ ((k = 1 ∨ k = 5) ∧ (0 ≤ b ∧ b ≤ 63) ∧ c = 0 ∧ v = 0) ∨ ((k = 2 ∨ k = 6) ∧ (0 ≤ b ∧ b ≤ 63) ∧ (1 ≤ c ∧ c ≤ 64 - b) ∧ v = 0) ∨ (k = 3 ∧ b = 0 ∧ c = 0 ∧ (1 ≤ v ∧ v ≤ 2147483647)) ∨ (k = 4 ∧ (0 ≤ b ∧ b ≤ 63) ∧ c = 0 ∧ (1 ≤ v ∧ v ≤ 4095)) ∨ (k = 7 ∧ b = 0 ∧ c = 0 ∧ (0 ≤ v ∧ v ≤ 31)) := by
 unfold It.may
 simp only
 split
 ·simp only [Bool.and_eq_true, decide_eq_true_eq, beq_iff_eq]; omega
 ·split
  ·simp only [Bool.and_eq_true, decide_eq_true_eq, beq_iff_eq]; omega
  ·split
   ·simp only [Bool.and_eq_true, decide_eq_true_eq, beq_iff_eq]; omega
   ·split
    ·simp only [Bool.and_eq_true, decide_eq_true_eq, beq_iff_eq]; omega
    ·split
     ·simp only [Bool.and_eq_true, decide_eq_true_eq, beq_iff_eq]; omega
     ·simp; omega
theorem loads_one (i : It) (h : i.may = true) : loads [i] = if i.k = 1 ∨ i.k = 4 ∨ i.k = 5 then 1 else 0 := by
 unfold loads It.loaded
 rw [List.filter_cons, h]
 by_cases h1 : i.k = 1
 ·simp [h1]
 ·by_cases h4 : i.k = 4
  ·simp [h4]
  ·by_cases h5 : i.k = 5
   ·simp [h5]
   ·simp [h1, h4, h5]
/-- a segment in which records stand from one place on, noughts behind them -/
structure Lg (d : Dk) (c : Cf) (q0 : Ps) (l : List (Ps × Rc)) (q : Ps) : Prop where
 rdy : Rdy d
 len : (d.safe.length : Int) = c.sectors
 laid : Laid d c q0 l q
 zs : ∀ x, c.at_ q.s + q.o ≤ x → x < c.at_ q.s + c.l → d.read x = List.replicate 64 0
 o0 : 1 ≤ q0.o
 o1 : q.o ≤ c.l - 1
 s0 : 0 ≤ q0.s ∧ q0.s ≤ c.s - 1
theorem Cf.sec (c : Cf) (h : c.Ok) (k : Int) (h0 : 0 ≤ k) (h1 : k ≤ c.s - 1) : 2 ≤ c.at_ k ∧ c.at_ k + c.l ≤ c.sectors ∧ c.sectors ≤ 4096 := by
 obtain ⟨m1, m2⟩ := Cf.prod c h k h0 (by omega)
 obtain ⟨m3, m4⟩ := Cf.prod c h c.s (by have := h.2.1; omega) (by omega)
 have h3 := rln_bounds h
 have h4 := pgs_bounds h
 have h5 : (c.s - k) * c.l ≥ 1 * c.l := Int.mul_le_mul_of_nonneg_right (by omega) (by have := h.2.2; omega)
 rw [Int.sub_mul] at h5
 unfold Cf.at_ Cf.sectors
 rw [if_pos ⟨h0, h1⟩]
 omega
theorem Lg.none_ {d : Dk} {c : Cf} {q0 q : Ps} {l : List (Ps × Rc)} (h : Lg d c q0 l q) (hc : c.Ok) : follow d c q = (none, 0) := by
 obtain ⟨h1, h2⟩ := h.laid.place
 obtain ⟨g1, g2, g3⟩ := Cf.sec c hc q.s (by rw [h1]; exact h.s0.1) (by rw [h1]; exact h.s0.2)
 have hl := h.len
 have ho0 := h.o0
 have ho := h.o1
 exact follow_zero (h.rdy.err0 (has_of (by omega) (by omega))) (h.zs _ (Int.le_refl _) (by omega))
theorem Lg.scan {d : Dk} {c : Cf} {q0 q : Ps} {l : List (Ps × Rc)} (h : Lg d c q0 l q) (hc : c.Ok) : scanG d c 65 q0 = (l, q, 0) :=
 h.laid.told h.o0 (by have := h.o1; have := hc.2.2; omega) (h.none_ hc)
/-- one record more -/
theorem Lg.add {d : Dk} {c : Cf} {q0 q : Ps} {l : List (Ps × Rc)} (h : Lg d c q0 l q) (hc : c.Ok) {r : Rc} (hr : rcMay r = true) (hn : r.n = q.l) (hp : r.p = q.p) (hm : q.m ≤ r.m) (hx : nextOf r = none) (hf : q.o + (1 + r.bl.length : Nat) ≤ c.l - 1) :
  Lg (d.puts (c.at_ q.s + q.o) (rcBytes r)) c q0 (l ++ [(q, r)]) ⟨q.s, q.o + (1 + r.bl.length : Nat), q.l + 1, (rcSum r : Nat), r.m⟩ := by
 obtain ⟨h1, h2⟩ := h.laid.place
 obtain ⟨g1, g2, g3⟩ := Cf.sec c hc q.s (by rw [h1]; exact h.s0.1) (by rw [h1]; exact h.s0.2)
 have hl := h.len
 have ho := h.o0
 have hb := rcBytes_length hr
 have hpt := h.rdy.puts (a := c.at_ q.s + q.o) (by omega) hb (by omega)
 have hg := h.rdy.puts_gat (a := c.at_ q.s + q.o) (by omega) hb (by omega)
 refine ⟨hpt.1, by rw [hpt.2.2]; exact hl, ?_, ?_, h.o0, by simp only; omega, h.s0⟩
 ·refine (h.laid.agr (lo := c.at_ q0.s) (h.rdy.puts_agr (lo := c.at_ q0.s) (hi := c.at_ q.s + q.o) (by omega) hb (by omega) (by rw [← h1]; omega) (.inl (Int.le_refl _))) (by omega) (by rw [h1]; exact Int.le_refl _)).snoc ?_ hx
  exact follow_laid hr hg.1 hg.2 hpt.1.ok (by omega) (by omega) hn hp hm
 ·intro x hx1 hx2
  simp only at hx1 hx2
  have := h.rdy.puts_agr (a := c.at_ q.s + q.o) (lo := x) (hi := x + 1) (by omega) hb (by omega) (by omega) (.inr (by omega)) x (Int.le_refl _) (by omega)
  rw [this.2]
  exact h.zs x (by omega) (by omega)
theorem read_new (n : Nat) (x : Int) (hn : 1 ≤ n ∧ n ≤ 4096) (h0 : 0 ≤ x) (h1 : x < n) : (Dk.new n).read x = List.replicate 64 0 := by
 refine (Rdy.new hn.1 hn.2).read_sec (has_of h0 (by simp [Dk.new]; omega)) ?_
 show (List.replicate n (List.replicate 64 (0 : UInt8)))[x.toNat]? = _
 rw [List.getElem?_replicate, if_pos (by omega)]
/-- a new disk with a segment's head -/
theorem Lg.start (c : Cf) (hc : c.Ok) (p q : Ps) (hq : q.s = p.s) (hs : 0 ≤ p.s ∧ p.s ≤ c.s - 1) (ho : 1 ≤ q.o ∧ q.o ≤ c.l - 1) : Lg ((Dk.new c.sectors.toNat).puts (c.at_ p.s) (headB p)) c q [] q := by
 obtain ⟨g1, g2, g3⟩ := Cf.sec c hc p.s hs.1 hs.2
 have hl := hc.2.2
 have hr : Rdy (Dk.new c.sectors.toNat) := Rdy.new (by omega) (by omega)
 have hlen : (Dk.new c.sectors.toNat).safe.length = c.sectors.toNat := by simp [Dk.new]
 have hpt := hr.puts (a := c.at_ p.s) (b := headB p) (n := 1) (by omega) (headB_length p) (by omega)
 refine ⟨hpt.1, by rw [hpt.2.2, hlen]; omega, .nil q, ?_, ho.1, ho.2, by rw [hq]; exact hs⟩
 intro x hx1 hx2
 rw [hq] at hx1 hx2
 have := hr.puts_agr (a := c.at_ p.s) (b := headB p) (n := 1) (lo := x) (hi := x + 1) (by omega) (headB_length p) (by omega) (by omega) (.inr (by omega)) x (Int.le_refl _) (by omega)
 rw [this.2]
 exact read_new _ x (by omega) (by omega) (by omega)
end Go.Kn
namespace Go.Proofs.YtgcfdjcpcclcjaaGreat
open Go Go.RowKit Go.Kn
theorem _root_.Go.Kn.fc_geo {w : World} {M : Nat → Prop} {p : Nat} {b s l : Int} (h : GeoAt w p b s l) (hp : ¬ M p) : Fc w M (fun W => GeoAt W p b s l) := fun W hW => ⟨fc_cell h.c0 hp W hW, fc_cell h.c1 hp W hW, fc_cell h.c2 hp W hW⟩
end Go.Proofs.YtgcfdjcpcclcjaaGreat
namespace Go.Proofs.YtgcfdjcpcclcjaaGreat
open Go Go.RowKit Go.Kn
theorem Duo.dk {w0 w : World} {p : PD} {r : RD} {d e : Dk} {c : Fr3} (h : Duo w0 w p r d e c) : ∃ L0 G0 F0, Wc w0 w (c.L ++ L0) (c.G ++ G0) (c.F ++ F0) ∧ DkIn p d L0 ∧ ∀ w' (c' : Fr3), Wc w0 w' (c'.L ++ L0) (c'.G ++ G0) (c'.F ++ F0) → Duo w0 w' p r d e c' := by
 obtain ⟨v, v', lv, k, ls, sl, hs, hl, hm⟩ := h.mem
 have pl : ∀ L, (p.L v d (r.L v' lv sl e L)).Perm (L ++ p.L v d (r.L v' lv sl e [])) := fun L => by
  have := List.perm_append_comm (l₁ := p.L v d (r.L v' lv sl e [])) (l₂ := L)
  simpa [PD.L, RD.L] using this
 have pg : ∀ (a b x : Gs) G, (a :: b :: x :: G).Perm (G ++ [a, b, x]) := fun a b x G => by
  have := List.perm_append_comm (l₁ := [a, b, x]) (l₂ := G)
  simpa using this
 refine ⟨p.L v d (r.L v' lv sl e []), [⟨158, 65, v, d.held.length, heldV d.held⟩, ⟨175, 2, v', e.held.length, heldR e.held hs⟩, ⟨47, 1, lv, k.val, ls⟩], [(fun W => Bls W sl e.safe), (fun W => Bls W hs (e.held.map (·.2)))], ?_, ?_, fun w' c' h' => ?_⟩
 ·refine (hm.perm (pl _) (pg _ _ _ _)).subF ?_
  intro f hf
  rcases List.mem_append.1 hf with hf | hf
  ·exact List.mem_cons_of_mem _ (List.mem_cons_of_mem _ hf)
  ·simp only [List.mem_cons, List.not_mem_nil, or_false] at hf ⊢
   rcases hf with hf | hf
   ·exact .inl hf
   ·exact .inr (.inl hf)
 ·exact ⟨h.ok, h.N, ⟨v, by simp [PD.L]⟩, by simp [PD.L], by simp [PD.L]⟩
 ·refine ⟨h.ok, h.N, h.hs, h.hn, h.hf, h.ok', h.N', h.hs', h.hf', v, v', lv, k, ls, sl, hs, hl, (h'.perm (pl _).symm (pg _ _ _ _).symm).subF ?_⟩
  intro f hf
  simp only [List.mem_cons] at hf
  rcases hf with hf | hf | hf
  ·exact List.mem_append.2 (.inr (by simp [hf]))
  ·exact List.mem_append.2 (.inr (by simp [hf]))
  ·exact List.mem_append.2 (.inl hf)
theorem Duo.put {w0 w : World} {p : PD} {r : RD} {d e : Dk} {L : List (Nat × List Value)} {G : List Gs} {F : List (World → Prop)} (h : Duo w0 w p r d e ⟨L, G, F⟩) (i : Nat) {b : Nat} {cs : List Value} (hi : L[i]? = some (b, cs)) (j : Nat) (u : Value) : Duo w0 (w.setCell ⟨b, j, none⟩ u) p r d e ⟨L.set i (b, cs.set j u), G, F⟩ := by
 obtain ⟨L0, G0, F0, hw, back⟩ := h.fr
 have hlt : i < L.length := (List.getElem?_eq_some_iff.1 hi).1
 have hw2 := hw.put i (p := b) (cs := cs) (by show (L ++ L0)[i]? = _; rw [List.getElem?_append_left hlt]; exact hi) j u
 refine back _ ⟨L.set i (b, cs.set j u), G, F⟩ ?_
 have e1 : (L ++ L0).set i (b, cs.set j u) = L.set i (b, cs.set j u) ++ L0 := by rw [List.set_append_left _ _ hlt]
 rw [← e1]
 exact hw2
theorem Duo.alloc {w0 w : World} {p : PD} {r : RD} {d e : Dk} {c : Fr3} (h : Duo w0 w p r d e c) (o : Obj) : Duo w0 (w.alloc o) p r d e c := h.keep0 ((Only.refl _ _).alloc _)
theorem Duo.drew {w0 w : World} {p : PD} {r : RD} {d e : Dk} {c : Fr3} (h : Duo w0 w p r d e c) : Duo w0 w.drew p r d e c := h.keep0 (Only.refl _ _).drew
theorem Duo.row {w0 w : World} {p : PD} {r : RD} {d e : Dk} {c : Fr3} (h : Duo w0 w p r d e c) {g : Gs} (hg : g ∈ c.G) : w.ownsRow w0.heap.size g.e g.sz g.v g.n g.xs := by
 obtain ⟨L0, G0, F0, hw, -⟩ := h.fr
 exact hw.g1 g (List.mem_append_left _ hg)
end Go.Proofs.YtgcfdjcpcclcjaaGreat
namespace Go.Kn
open Go Go.RowKit
theorem headB_dec {p : Ps} (h : headMay p.head = true) : decHead (headB p) = some p.head := by
 obtain ⟨b, h1, _, _, h2⟩ := head_back h
 rw [headB_enc h] at h1
 injection h1 with h1
 rw [h1]
 exact h2
/-- a segment's head stands there -/
structure Hd (d : Dk) (c : Cf) (p : Ps) : Prop where
 e : d.err (c.at_ p.s) = 0
 r : d.read (c.at_ p.s) = headB p
 may : headMay p.head = true
theorem Hd.agr {d d' : Dk} {c : Cf} {p : Ps} {lo hi : Int} (h : Hd d c p) (ha : Agr d d' lo hi) (h1 : lo ≤ c.at_ p.s) (h2 : c.at_ p.s < hi) : Hd d' c p := by
 obtain ⟨e1, e2⟩ := ha _ h1 h2
 exact ⟨e1.trans h.e, e2.trans h.r, h.may⟩
theorem Hd.start (c : Cf) (hc : c.Ok) (p : Ps) (hs : 0 ≤ p.s ∧ p.s ≤ c.s - 1) (hm : headMay p.head = true) : Hd ((Dk.new c.sectors.toNat).puts (c.at_ p.s) (headB p)) c p := by
 obtain ⟨g1, g2, g3⟩ := Cf.sec c hc p.s hs.1 hs.2
 have hl := hc.2.2
 have hr : Rdy (Dk.new c.sectors.toNat) := Rdy.new (by omega) (by omega)
 have hlen : (Dk.new c.sectors.toNat).safe.length = c.sectors.toNat := by simp [Dk.new]
 obtain ⟨h1, h2⟩ := hr.puts_gat (a := c.at_ p.s) (b := headB p) (n := 1) (by omega) (headB_length p) (by omega)
 rw [gat_one] at h1
 rw [gerr_one] at h2
 exact ⟨h2, h1, hm⟩
theorem Hd.scanB {d : Dk} {c : Cf} {p : Ps} (h : Hd d c p) (hc : c.Ok) (hs : 0 ≤ p.s ∧ p.s ≤ c.s - 1) : Kn.scanB d c false ⟨p.s, 0, p.l, p.p, p.m⟩ = (⟨p.s, 1, p.l, p.p, p.m⟩, true, 0) ∧ Kn.scanB d c true ⟨p.s, 0, 0, 0, 0⟩ = (⟨p.s, 1, p.l, p.p, p.m⟩, true, 0) := by
 have hl := hc.2.2
 have hd : decHead (d.read (c.at_ p.s)) = some p.head := by rw [h.r]; exact headB_dec h.may
 constructor
 ·rw [scanB_some (p := ⟨p.s, 0, p.l, p.p, p.m⟩) ⟨hs, by simp only; omega⟩ (by simp) h.e hd]
  simp [headFits, Ps.head]
 ·rw [scanB_some (p := ⟨p.s, 0, 0, 0, 0⟩) ⟨hs, by simp only; omega⟩ (by simp) h.e hd]
  simp [Ps.head]
theorem Hd.scan {d : Dk} {c : Cf} {p : Ps} (h : Hd d c p) (hc : c.Ok) (hs : 0 ≤ p.s ∧ p.s ≤ c.s - 1) : scanR d c false ⟨p.s, 0, p.l, p.p, p.m⟩ = scanG d c 65 ⟨p.s, 1, p.l, p.p, p.m⟩ ∧ scanR d c true ⟨p.s, 0, 0, 0, 0⟩ = scanG d c 65 ⟨p.s, 1, p.l, p.p, p.m⟩ := by
 obtain ⟨h1, h2⟩ := h.scanB hc hs
 unfold scanR
 rw [h1, h2]
 exact ⟨rfl, rfl⟩
theorem Krs.one {w : World} {g : Nat} {s : Option Addr × Nat × Nat} {zs : List Int} {f : Int} (ho : Own w g [slv s, .int .i64 f, .int .i64 0, .int .i64 0, .int .i64 0]) (hi : Ins w s.1 s.2.1 s.2.2 zs) : Krs w (some ⟨g, 0, none⟩) 1 1 [⟨zs, f, 0, 0, 0⟩] [s] := by
 refine ⟨rfl, rfl, Nat.le_refl _, by decide, fun _ => ⟨g, 0, rfl, fun i h h2 => ?_⟩, fun i h h2 => ?_⟩
 ·obtain rfl : i = 0 := by simp at h; omega
  exact ⟨ho.cell 0 (by simp), ho.cell 1 (by simp), ho.cell 2 (by simp), ho.cell 3 (by simp), ho.cell 4 (by simp)⟩
 ·obtain rfl : i = 0 := by simp at h; omega
  exact hi
end Go.Kn
namespace Go.Proofs.YtgcfdjcpcclcjaaGreat
open Go Go.RowKit Go.Kn
theorem Duo.permL {w0 w : World} {p : PD} {r : RD} {d e : Dk} {L L' : List (Nat × List Value)} {G : List Gs} {F : List (World → Prop)} (h : Duo w0 w p r d e ⟨L, G, F⟩) (hL : L.Perm L') : Duo w0 w p r d e ⟨L', G, F⟩ := by
 obtain ⟨L0, G0, F0, hw, back⟩ := h.fr
 exact back w ⟨L', G, F⟩ (hw.perm (hL.append_right L0) (List.Perm.refl _))
end Go.Proofs.YtgcfdjcpcclcjaaGreat
namespace Go.Proofs.YtgcfdjcpcclcjaaGreat
open Go.ChangeShapes Go.WideShapes Go.ChangeAt Go.RowKit Go.Kn
theorem own : ownKnob Tryz.prog.godebug = none := by kernel_rfl
theorem laidOut : laidOutB Tryz.prog = true := by kernel_rfl
/-- a slice of integers that came in: nil, or a row of cap cells. -/
def IsRow (k : IntKind) (w : World) (a : Option Addr) (len cap : Nat) (zs : List Int) : Prop :=
 (a = none ∧ len = 0 ∧ cap = 0 ∧ zs = []) ∨
 ∃ x, a = some x ∧ len ≤ cap ∧ cap ≤ maxLen ∧ zs.length = cap ∧ (∀ i, i < zs.length → w.cell? (x.add i) = some (.int k (zs.getD i 0))) ∧ ∀ n ∈ zs, (Lit.int k n).wf = true
theorem add_none {w : World} {x : Addr} {i : Nat} {v : Value} (h : w.cell? (x.add i) = some v) (h0 : ∃ u, w.cell? (x.add 0) = some u) : x.add i = ⟨x.block, x.off + i, none⟩ := by
 obtain ⟨u, hu⟩ := h0
 have hs : x.spot = none := by
  have := World.cell?_spot hu
  simpa [Addr.add] using this
 obtain ⟨b, o, s⟩ := x
 simp only at hs
 subst hs
 unfold Addr.add
 split <;> simp_all
theorem IsRow.row1 {k : IntKind} {w : World} {a : Option Addr} {len cap : Nat} {zs : List Int} (h : IsRow k w a len cap zs) : Row1 w a len cap ((zs.take len).map (Value.int k)) := by
 rcases h with ⟨rfl, rfl, rfl, rfl⟩ | ⟨x, rfl, hl, hm, hz, hcell, hwz⟩
 ·exact Row1.nil w
 ·refine ⟨by simp; omega, hl, hm, fun hn => ⟨x.block, x.off, ?_, fun i hi => ?_⟩⟩
  ·have h0 := hcell 0 (by omega)
   have := add_none h0 ⟨_, h0⟩
   unfold Addr.add at this
   simp at this
   rw [this]
  ·have hi' : i < len := by simp at hi; omega
   have h0 := hcell 0 (by omega)
   have h1 := hcell i (by omega)
   rw [add_none h1 ⟨_, h0⟩] at h1
   rw [h1]
   simp [List.getElem_take, show i < zs.length by omega]
theorem IsRow.ins {w : World} {a : Option Addr} {len cap : Nat} {zs : List Int} (h : IsRow .i64 w a len cap zs) : Ins w a len cap (zs.take len) := h.row1
theorem IsRow.wf {k : IntKind} {w : World} {a : Option Addr} {len cap : Nat} {zs : List Int} (h : IsRow k w a len cap zs) : ∀ z ∈ zs.take len, (Lit.int k z).wf = true := by
 intro z hz
 rcases h with ⟨rfl, rfl, rfl, rfl⟩ | ⟨x, rfl, hl, hm, hz', hcell, hwz⟩
 ·simp at hz
 ·exact hwz z (List.mem_of_mem_take hz)
section
open Go.Deep
variable {H : Type} {enc : TypeId × Value → H} {P : Program} {w : World} {base : Nat} {spare : Nat → Bool} {held : Bool}
theorem open_int1 {t : TypeId} {k : IntKind} {fuel : Nat} {v : Value} {y : DataW H × List MemPlace} (ht : P.underlying t = some (.int k)) (h : DataW.trod enc P w base spare held fuel t [v] = some y) : ∃ z, v = .int k z ∧ (Lit.int k z).wf = true := by
 obtain ⟨a, e0, _, wa⟩ := DataW.trod_int ht h
 simp at e0
 exact ⟨a, e0, wa⟩
end
end Go.Proofs.YtgcfdjcpcclcjaaGreat
namespace Go.Proofs.YtgcfdjcpcclcjaaGreat
open Go.ChangeShapes Go.WideShapes Go.ChangeAt Go.RowKit Go.Kn Go.Deep
variable {H : Type} {enc : TypeId × Value → H}
theorem list_of {α : Type} {n : Nat} {p : Nat → α → Prop} (h : ∀ i, i < n → ∃ x, p i x) : ∃ l : List α, l.length = n ∧ ∀ i (hi : i < l.length), p i l[i] := by
 induction n with
 | zero => exact ⟨[], rfl, fun i hi => by simp at hi⟩
 | succ n ih =>
  obtain ⟨l, hl, hp⟩ := ih fun i hi => h i (by omega)
  obtain ⟨x, hx⟩ := h n (by omega)
  refine ⟨l ++ [x], by simp [hl], fun i hi => ?_⟩
  by_cases h1 : i < l.length
  ·rw [List.getElem_append_left h1]; exact hp i h1
  ·have : i = l.length := by simp at hi; omega
   subst this
   simpa [hl] using hx
end Go.Proofs.YtgcfdjcpcclcjaaGreat
namespace Go.Kn
open Go Go.RowKit
/-- a slice of slices of numbers -/
def Inss (w : World) (A : Option Addr) (n c : Nat) (l : List (List Int)) : Prop := ∃ sl : List (Option Addr × Nat × Nat), Row1 w A n c (sl.map slv) ∧ sl.length = l.length ∧ ∀ i (h1 : i < sl.length) (h2 : i < l.length), Ins w sl[i].1 sl[i].2.1 sl[i].2.2 l[i]
theorem Inss.nil (w : World) : Inss w none 0 0 [] := ⟨[], Row1.nil w, rfl, fun i h1 => by simp at h1⟩
theorem Inss.len {w : World} {A : Option Addr} {n c : Nat} {l : List (List Int)} (h : Inss w A n c l) : l.length = n := by
 obtain ⟨sl, h1, h2, _⟩ := h
 have := h1.len
 simp at this
 omega
theorem Krs.nil (w : World) : Krs w none 0 0 [] [] := ⟨rfl, rfl, Nat.le_refl _, Nat.zero_le _, fun h => absurd h (by omega), fun i h => by simp at h⟩
end Go.Kn
namespace Go.Kn
open Go Go.RowKit
def InRows (sl : List (Option Addr × Nat × Nat)) (l : List (List Int)) (W : World) : Prop := ∀ (i : Nat) (s : Option Addr × Nat × Nat) (z : List Int), sl[i]? = some s → l[i]? = some z → Ins W s.1 s.2.1 s.2.2 z
/-- a slice of slices, as two facts -/
theorem Inss.old {w : World} {A : Option Addr} {n c : Nat} {l : List (List Int)} (h : Inss w A n c l) : ∃ sl, sl.length = l.length ∧ Wc w w [] [] [InRows sl l, fun W => Row1 W A n c (sl.map slv)] := by
 obtain ⟨sl, hr, hl, hi⟩ := h
 have h1 := (Wc.start w).old (f := fun W => Row1 W A n c (sl.map slv)) (Row1.fc hr (by simp))
 refine ⟨sl, hl, h1.old (f := InRows sl l) (fun W hW i s z hs hz => ?_)⟩
 obtain ⟨hi1, rfl⟩ := List.getElem?_eq_some_iff.1 hs
 obtain ⟨hi2, rfl⟩ := List.getElem?_eq_some_iff.1 hz
 exact Row1.fc (hi i hi1 hi2) (M := fun _ => False) (by simp) W hW
theorem Kb.hd {w w' : World} {D : Nat} {x : Option (List Deferred)} (hk : Kb w.heap.size w w') (h : w.heap[D]? = some (.deferred x)) : w'.heap[D]? = some (.deferred x) := hk.keep D _ (lt_of_obj h) h rfl
theorem Laid.cut {d : Dk} {c : Cf} {q' : Ps} {l2 : List (Ps × Rc)} : ∀ {l1 : List (Ps × Rc)} {q : Ps}, Laid d c q (l1 ++ l2) q' → ∃ qm, Laid d c q l1 qm ∧ Laid d c qm l2 q'
 | [], q, h => ⟨q, .nil _, h⟩
 | x :: l1, q, h => by
  cases h with
  | cons h1 h2 h3 =>
   obtain ⟨qm, g1, g2⟩ := Laid.cut h3
   exact ⟨qm, .cons h1 h2 g1, g2⟩
theorem Laid.last {d : Dk} {c : Cf} {q' x : Ps} {r : Rc} : ∀ {l : List (Ps × Rc)} {q : Ps}, Laid d c q (l ++ [(x, r)]) q' → follow d c x = (some (r, q'), 0)
 | [], q, h => by
  cases h with
  | cons h1 h2 h3 =>
   cases h3
   exact h1
 | y :: l, q, h => by
  cases h with
  | cons h1 h2 h3 => exact Laid.last h3
/-- stopped behind some records it goes on there -/
theorem Lg.stop {d : Dk} {c : Cf} {q0 q e x : Ps} {r : Rc} {l pre : List (Ps × Rc)} (h : Lg d c q0 l q) (hc : c.Ok) (hp : pre ++ [(x, r)] <+: l) (hf : follow d c x = (some (r, e), 0)) :
  (e.s = q0.s ∧ 1 ≤ e.o ∧ e.o ≤ c.l - 1) ∧ scanG d c 65 e = (l.drop (pre.length + 1), q, 0) := by
 obtain ⟨l2, rfl⟩ := hp
 obtain ⟨qm, g1, g2⟩ := h.laid.cut
 have g3 := g1.last
 rw [hf] at g3
 injection g3 with g3 _
 injection g3 with g3
 injection g3 with _ g3
 subst g3
 have p1 := g1.place
 have p2 := g2.place
 have ho := h.o0
 have ho1 := h.o1
 have hl := hc.2.2
 refine ⟨⟨p1.1, by omega, by omega⟩, ?_⟩
 have hd : (pre ++ [(x, r)] ++ l2).drop (pre.length + 1) = l2 := List.drop_left' (by simp)
 rw [hd]
 exact g2.told (by omega) (by omega) (h.none_ hc)
end Go.Kn
namespace Go.Proofs.YtgcfdjcpcclcjaaGreat
open Go Go.RowKit Go.Kn
theorem Duo.impF {w0 w : World} {p : PD} {r : RD} {d e : Dk} {L : List (Nat × List Value)} {G : List Gs} {F : List (World → Prop)} (h : Duo w0 w p r d e ⟨L, G, F⟩) {F' : List (World → Prop)} (hF : ∀ f ∈ F', ∀ W, (∀ g ∈ F, g W) → f W) : Duo w0 w p r d e ⟨L, G, F'⟩ := by
 obtain ⟨L0, G0, F0, hw, back⟩ := h.fr
 refine back w ⟨L, G, F'⟩ ⟨hw.only, hw.own, hw.lo, hw.nd, hw.g1, hw.g2, hw.g3, fun f hf w' h' => ?_⟩
 rcases List.mem_append.1 hf with hf | hf
 ·exact hF f hf w' (fun g hg => hw.fx g (List.mem_append_left _ hg) w' h')
 ·exact hw.fx f (List.mem_append_right _ hf) w' h'
end Go.Proofs.YtgcfdjcpcclcjaaGreat
namespace Go.Kn
open Go Go.RowKit
/-- a gathered slice that is written no more: a fact -/
theorem Wc.gout {w0 w : World} {L : List (Nat × List Value)} {G : List Gs} {F : List (World → Prop)} {e n c : Nat} {A : Option Addr} {xs : List Value} (h : Wc w0 w L (⟨e, 1, .slice A n c, n, xs⟩ :: G) F) : Wc w0 w L G ((fun W => Row1 W A n c xs) :: F) := by
 have hr := (Row1.of_owns (h.gi 0 rfl)).1
 refine h.gdrop.addF _ (Row1.fc hr fun hn a ha hm => ?_)
 subst ha
 have hob : (Value.slice (some a) n c).ownBlock = some a.block := rfl
 rcases hm with hm | ⟨y, hy, hk⟩
 ·obtain ⟨x, hx, e1⟩ := List.mem_map.1 hm
  exact h.g3 x hx _ List.mem_cons_self (by rw [hob, e1])
 ·exact (List.pairwise_cons.1 h.g2).1 y hy _ hob hk
/-- where the records of a log stand -/
theorem Laid.first {d : Dk} {c : Cf} {q q' : Ps} {l : List (Ps × Rc)} (h : Laid d c q l q') : (l.map (·.1.o) ++ [q'.o])[0]? = some q.o := by
 cases h with
 | nil _ => rfl
 | cons h1 h2 h3 => rfl
end Go.Kn
namespace Go.Proofs.YtgcfdjcpcclcjaaGreat
open Go Go.RowKit Go.Kn
section
variable {w0 w w' : World} {p : PD} {r : RD} {d e : Dk} {L : List (Nat × List Value)} {G : List Gs} {F : List (World → Prop)}
theorem Duo.gnew (h : Duo w0 w p r d e ⟨L, G, F⟩) (t sz : Nat) : Duo w0 w p r d e ⟨L, ⟨t, sz, .slice none 0 0, 0, []⟩ :: G, F⟩ := by
 obtain ⟨L0, G0, F0, hw, back⟩ := h.fr
 exact back w ⟨L, _ :: G, F⟩ (hw.gnew t sz)
theorem Duo.gapp (h : Duo w0 w p r d e ⟨L, G, F⟩) (i : Nat) {x : Gs} (hi : G[i]? = some x) {v' : Value} {n' : Nat} {ys : List Value} (ho : w'.ownsRow w0.heap.size x.e x.sz v' n' ys) (hg : w.grownBy w' x.v.ownBlock) (hat : v'.ownBlock = x.v.ownBlock ∨ v'.ownBlock = some w.heap.size) : Duo w0 w' p r d e ⟨L, G.set i ⟨x.e, x.sz, v', n', ys⟩, F⟩ := by
 obtain ⟨L0, G0, F0, hw, back⟩ := h.fr
 have hlt : i < G.length := (List.getElem?_eq_some_iff.1 hi).1
 have hw2 := hw.gapp i (x := x) (by show (G ++ G0)[i]? = _; rw [List.getElem?_append_left hlt]; exact hi) ho hg hat
 refine back _ ⟨L, G.set i ⟨x.e, x.sz, v', n', ys⟩, F⟩ ?_
 show Wc w0 w' (L ++ L0) (G.set i ⟨x.e, x.sz, v', n', ys⟩ ++ G0) (F ++ F0)
 rw [← List.set_append_left _ _ hlt]
 exact hw2
theorem Duo.gadd (h : Duo w0 w p r d e ⟨L, G, F⟩) (hO : Only [] w w') {t sz n : Nat} {v : Value} {xs : List Value} (ho : w'.ownsRow w.heap.size t sz v n xs) : Duo w0 w' p r d e ⟨L, ⟨t, sz, v, n, xs⟩ :: G, F⟩ := by
 obtain ⟨L0, G0, F0, hw, back⟩ := h.fr
 exact back w' ⟨L, _ :: G, F⟩ (hw.gadd hO ho)
theorem Duo.gdrop {x : Gs} (h : Duo w0 w p r d e ⟨L, x :: G, F⟩) : Duo w0 w p r d e ⟨L, G, F⟩ := by
 obtain ⟨L0, G0, F0, hw, back⟩ := h.fr
 exact back w ⟨L, G, F⟩ hw.gdrop
theorem Duo.gout {t n c : Nat} {A : Option Addr} {xs : List Value} (h : Duo w0 w p r d e ⟨L, ⟨t, 1, .slice A n c, n, xs⟩ :: G, F⟩) : Duo w0 w p r d e ⟨L, G, (fun W => Row1 W A n c xs) :: F⟩ := by
 obtain ⟨L0, G0, F0, hw, back⟩ := h.fr
 exact back w ⟨L, G, _ :: F⟩ hw.gout
theorem Duo.gform (h : Duo w0 w p r d e ⟨L, G, F⟩) (i : Nat) {t sz n : Nat} {v : Value} {xs : List Value} (hi : G[i]? = some ⟨t, sz, v, n, xs⟩) : ∃ A c, v = .slice A n c := by
 obtain ⟨L0, G0, F0, hw, back⟩ := h.fr
 have hlt : i < G.length := (List.getElem?_eq_some_iff.1 hi).1
 exact hw.gform i (by show (G ++ G0)[i]? = _; rw [List.getElem?_append_left hlt]; exact hi)
theorem Duo.gi (h : Duo w0 w p r d e ⟨L, G, F⟩) (i : Nat) {x : Gs} (hi : G[i]? = some x) : w.ownsRow w0.heap.size x.e x.sz x.v x.n x.xs := h.row (List.mem_of_getElem? hi)
/-- the cells of a gathered row of single cells -/
theorem Duo.grow (h : Duo w0 w p r d e ⟨L, G, F⟩) (i : Nat) {t n c : Nat} {A : Option Addr} {xs : List Value} (hi : G[i]? = some ⟨t, 1, .slice A n c, n, xs⟩) : Row1 w A n c xs := (Row1.of_owns (h.gi i hi)).1
theorem duo_write {c : Fr3} (h : Duo w0 w p r d e c) (a : Int) (A : Option Addr) (n cc : Nat) (b : List UInt8) (hb : (fun W => Bys W A n cc b) ∈ c.F) (hh : d.held.length ≤ 1000000) :
  Calls Tryz.prog 24 #[.pointer (some ⟨p.D, 0, none⟩), .int .i64 a, .slice A n cc] w fun en w' => en = .returned (.int .i64 (d.write a b).2) ∧ Duo w0 w' p r (d.write a b).1 e c := by
 obtain ⟨c1, hF, hP, back⟩ := h.ofP
 refine (dk_write_any w0 w p d c1 a A n cc b hP (hF _ hb) hh).mono ?_
 rintro en w1 ⟨rfl, h1⟩
 exact ⟨rfl, back _ _ h1⟩
end
end Go.Proofs.YtgcfdjcpcclcjaaGreat
namespace Go.Kn
open Go Go.RowKit
/-- a record of a lower Mount stands at a place -/
def Low (d : Dk) (c : Cf) (q : Ps) : Prop := ∃ r : Rc, rcMay r = true ∧ r.bl = [] ∧ gat d (c.at_ q.s + q.o) 1 = rcBytes r ∧ gerr d (c.at_ q.s + q.o) 1 = 0 ∧ r.m < q.m
theorem Low.none_ {d : Dk} {c : Cf} {q : Ps} (h : Low d c q) : follow d c q = (none, 0) := by
 obtain ⟨r, hm, hb, hg, he, hl⟩ := h
 by_cases hin : 1 ≤ q.o ∧ q.o ≤ c.l - 1
 ·have hlen := rcBytes_length hm
  rw [hb] at hlen
  have hs := sizeRc_laid hm
  rw [hb, List.take_of_length_le (by rw [hlen]; decide)] at hs
  rw [gat_one] at hg
  have he2 := he
  rw [gerr_one] at he2
  have hsz : sizeRc (d.read (c.at_ q.s + q.o)) = 1 := by rw [hg]; exact hs
  rw [follow_rec hin rfl he2 hsz (by omega) he (by rw [gat_one, hg]; exact dec_rc hm), if_neg (by intro h; omega)]
 ·exact follow_out hin
theorem Low.agr {d d' : Dk} {c : Cf} {q : Ps} {lo hi : Int} (h : Low d c q) (ha : Agr d d' lo hi) (h1 : lo ≤ c.at_ q.s + q.o) (h2 : c.at_ q.s + q.o + 1 ≤ hi) : Low d' c q := by
 obtain ⟨r, hm, hb, hg, he, hl⟩ := h
 obtain ⟨e1, e2⟩ := gat_agr ha h1 1 (by omega)
 exact ⟨r, hm, hb, e1.trans hg, e2.trans he, hl⟩
structure Mt (d : Dk) (c : Cf) (q0 q : Ps) (want : Nat) (down : Bool) : Prop where
 rdy : Rdy d
 len : (d.safe.length : Int) = c.sectors
 zs : ∀ x, c.at_ q.s + q.o ≤ x → x < c.at_ q.s + c.l → d.read x = List.replicate 64 0
 s : q.s = q0.s
 o0 : 1 ≤ q0.o ∧ q0.o + want ≤ q.o
 o1 : q.o ≤ c.l - 1
 s0 : 0 ≤ q0.s ∧ q0.s ≤ c.s - 1
 st : (down = false ∧ ∃ l : List (Ps × Rc), l.length = want ∧ Laid d c q0 l q ∧ q.o = q0.o + want) ∨ (down = true ∧ ∃ (l : List (Ps × Rc)) (qf : Ps), l.length = want ∧ Laid d c q0 l qf ∧ qf.o = q0.o + want ∧ Low d c qf ∧ qf.o + 1 ≤ q.o)
theorem Mt.start {d : Dk} {c : Cf} {q0 q : Ps} (h : Lg d c q0 [] q) (hq : q = q0) : Mt d c q0 q 0 false := by
 subst hq
 exact ⟨h.rdy, h.len, h.zs, rfl, ⟨h.o0, by simp⟩, h.o1, h.s0, .inl ⟨rfl, [], rfl, h.laid, by simp⟩⟩
theorem Mt.step {d : Dk} {c : Cf} {q0 q : Ps} {want : Nat} {down : Bool} (h : Mt d c q0 q want down) (hc : c.Ok) {r : Rc} (hr : rcMay r = true) (hb : r.bl = []) (hn : r.n = q.l) (hp : r.p = q.p) (hx : nextOf r = none) (hf : q.o + 1 ≤ c.l - 1) :
  Mt (d.puts (c.at_ q.s + q.o) (rcBytes r)) c q0 ⟨q.s, q.o + 1, q.l + 1, (rcSum r : Nat), r.m⟩ (if (down || decide (r.m < q.m)) = true then want else want + 1) (down || decide (r.m < q.m)) := by
 obtain ⟨g1, g2, g3⟩ := Cf.sec c hc q.s (by rw [h.s]; exact h.s0.1) (by rw [h.s]; exact h.s0.2)
 have hl := h.len
 obtain ⟨ho0, ho1⟩ := h.o0
 have hlen := rcBytes_length hr
 rw [hb] at hlen
 have hlen' : (rcBytes r).length = 64 * 1 := hlen
 have hpt := h.rdy.puts (a := c.at_ q.s + q.o) (by omega) hlen' (by omega)
 have hg := h.rdy.puts_gat (a := c.at_ q.s + q.o) (by omega) hlen' (by omega)
 have hag := h.rdy.puts_agr (a := c.at_ q.s + q.o) (lo := c.at_ q.s) (hi := c.at_ q.s + q.o) (by omega) hlen' (by omega) (by omega) (.inl (Int.le_refl _))
 refine ⟨hpt.1, by rw [hpt.2.2]; exact hl, ?_, h.s, ⟨ho0, ?_⟩, by simp only; omega, h.s0, ?_⟩
 ·intro x hx1 hx2
  simp only at hx1 hx2
  have := h.rdy.puts_agr (a := c.at_ q.s + q.o) (lo := x) (hi := x + 1) (by omega) hlen' (by omega) (by omega) (.inr (by omega)) x (Int.le_refl _) (by omega)
  rw [this.2]
  exact h.zs x (by omega) (by omega)
 ·simp only; split <;> omega
 ·rcases h.st with ⟨rfl, l, h1, h2, h3⟩ | ⟨rfl, l, qf, h1, h2, h3, h4, h5⟩
  ·have hpl := h2.place
   have hla := h2.agr hag (by rw [← h.s]; omega) (by rw [← h.s]; exact Int.le_refl _)
   by_cases hk : r.m < q.m
   ·rw [Bool.false_or, decide_eq_true hk, if_pos rfl]
    exact .inr ⟨rfl, l, q, h1, hla, h3, ⟨r, hr, hb, hg.1, hg.2, hk⟩, by simp⟩
   ·rw [Bool.false_or, decide_eq_false hk, if_neg (by decide)]
    refine .inl ⟨rfl, l ++ [(q, r)], by rw [List.length_append, h1]; rfl, hla.snoc ?_ hx, by simp only; omega⟩
    have := follow_laid (c := c) (q := q) hr (by rw [hb]; exact hg.1) (by rw [hb]; exact hg.2) hpt.1.ok (by omega) (by rw [hb]; simp; omega) hn hp (by omega)
    rw [hb] at this
    exact this
  ·rw [Bool.true_or, if_pos rfl]
   have hpl := h2.place
   refine .inr ⟨rfl, l, qf, h1, h2.agr hag (by rw [← h.s]; omega) (by rw [← h.s]; omega), h3, h4.agr hag (by rw [hpl.1, ← h.s]; omega) (by rw [hpl.1, ← h.s]; omega), by simp only; omega⟩
theorem Mt.scan {d : Dk} {c : Cf} {q0 q : Ps} {want : Nat} {down : Bool} (h : Mt d c q0 q want down) (hc : c.Ok) : ∃ (l : List (Ps × Rc)) (qf : Ps), scanG d c 65 q0 = (l, qf, 0) ∧ l.length = want ∧ qf.o = q0.o + want := by
 have hll := hc.2.2
 have ho1 := h.o1
 obtain ⟨ho0, ho2⟩ := h.o0
 rcases h.st with ⟨rfl, l, h1, h2, h3⟩ | ⟨rfl, l, qf, h1, h2, h3, h4, h5⟩
 ·refine ⟨l, q, h2.told ho0 (by omega) ?_, h1, h3⟩
  obtain ⟨g1, g2, g3⟩ := Cf.sec c hc q.s (by rw [h.s]; exact h.s0.1) (by rw [h.s]; exact h.s0.2)
  have hl := h.len
  exact follow_zero (h.rdy.err0 (has_of (by omega) (by omega))) (h.zs _ (Int.le_refl _) (by omega))
 ·exact ⟨l, qf, h2.told ho0 (by omega) h4.none_, h1, h3⟩
end Go.Kn
namespace Go.Kn
open Go Go.RowKit
/-- a disk of a device, ready, of which nothing is held -/
structure Std (d : Dk) (c : Cf) : Prop where
 rdy : Rdy d
 len : (d.safe.length : Int) = c.sectors
 held : d.held = []
theorem Std.start (c : Cf) (hc : c.Ok) : Std (Dk.new c.sectors.toNat) c := by
 obtain ⟨g1, g2, g3⟩ := Cf.sec c hc 0 (by decide) (by have := hc.2.1; omega)
 have hl := hc.2.2
 exact ⟨Rdy.new (by omega) (by omega), by simp [Dk.new]; omega, rfl⟩
theorem Std.puts {d : Dk} {c : Cf} (h : Std d c) {a : Int} {b : List UInt8} {n : Nat} (ha : 0 ≤ a) (hb : b.length = 64 * n) (hr : a + n ≤ c.sectors) : Std (d.puts a b) c := by
 have hl := h.len
 obtain ⟨h1, h2, h3⟩ := h.rdy.puts (a := a) (b := b) (n := n) ha hb (by omega)
 exact ⟨h1, by rw [h3]; exact hl, (h.rdy.live.puts a b).2⟩
theorem Std.head {d : Dk} {c : Cf} (h : Std d c) (hc : c.Ok) (p : Ps) (hs : 0 ≤ p.s ∧ p.s ≤ c.s - 1) : Std (d.puts (c.at_ p.s) (headB p)) c := by
 obtain ⟨g1, g2, g3⟩ := Cf.sec c hc p.s hs.1 hs.2
 have hl := hc.2.2
 exact h.puts (n := 1) (by omega) (headB_length p) (by omega)
end Go.Kn
namespace Go.Proofs.YtgcfdjcpcclcjaaGreat
open Go Go.RowKit Go.Kn
section
variable {w0 w w' : World} {p : PD} {r : RD} {d e : Dk} {L : List (Nat × List Value)} {G : List Gs} {F : List (World → Prop)}
theorem Duo.sub (h : Duo w0 w p r d e ⟨L, G, F⟩) {L' : List (Nat × List Value)} {G' : List Gs} {F' : List (World → Prop)} (hL : L'.Sublist L) (hG : G'.Sublist G) (hF : ∀ f ∈ F', f ∈ F) : Duo w0 w p r d e ⟨L', G', F'⟩ := by
 obtain ⟨L0, G0, F0, hw, back⟩ := h.fr
 exact back w ⟨L', G', F'⟩ ((hw.sub (hL.append_right L0) (F' := F' ++ F0) (fun f hf => (List.mem_append.1 hf).elim (fun h => List.mem_append_left _ (hF f h)) (List.mem_append_right _))).subG (hG.append_right G0))
end
end Go.Proofs.YtgcfdjcpcclcjaaGreat
namespace Go.Kn
open Go Go.RowKit
/-- a segment's state and stamp -/
structure Us where
 st : Int
 sp : Int
structure Tb where
 us : List Us
 live : List Int
def usOne (x : Us) : List Value := [.int .i64 x.st, .int .i64 x.sp]
def usV (l : List Us) : List Value := l.flatMap usOne
theorem usV_len (l : List Us) : (usV l).length = l.length * 2 := by
 induction l with
 | nil => rfl
 | cons x l ih => rw [usV, List.flatMap_cons, List.length_append, List.length_cons, show (List.flatMap usOne l).length = _ from ih]; show 2 + _ = _; omega
theorem usV_get (l : List Us) (i k : Nat) (hi : i < l.length) (hk : k < 2) : (usV l)[i * 2 + k]? = (usOne l[i])[k]? := flatMap_get usOne 2 (fun _ => rfl) l i k hi hk
theorem usV_set : ∀ (l : List Us) (i k : Nat) (x : Us) (v : Value), i < l.length → k < 2 → usOne x = (usOne (l.getD i ⟨0, 0⟩)).set k v → (usV l).set (i * 2 + k) v = usV (l.set i x)
 | [], i, k, x, v, hi, _, _ => by simp at hi
 | y :: l, 0, k, x, v, _, hk, h => by
  rw [List.set_cons_zero]
  unfold usV
  rw [List.flatMap_cons, List.flatMap_cons, List.set_append_left _ _ (by show 0 * 2 + k < 2; omega), h]
  simp
 | y :: l, i + 1, k, x, v, hi, hk, h => by
  rw [List.set_cons_succ]
  have ih := usV_set l i k x v (by simpa using hi) hk (by simpa using h)
  unfold usV at ih ⊢
  rw [List.flatMap_cons, List.flatMap_cons, List.set_append_right _ _ (by show 2 ≤ _; omega)]
  congr 1
  have : (i + 1) * 2 + k - (usOne y).length = i * 2 + k := by show _ - 2 = _; omega
  rw [this]
  exact ih
namespace Tb
/-- is there such a segment -/
def has (t : Tb) (s : Int) : Bool := decide (0 ≤ s ∧ s < t.us.length)
def use (t : Tb) (s : Int) : Us := t.us.getD s.toNat ⟨0, 0⟩
def state (t : Tb) (s : Int) : Int := if t.has s = true then (t.use s).st else 0
def grabs (t : Tb) (s : Int) : Bool := t.has s && decide ((t.use s).st = 0)
def grab (t : Tb) (s : Int) : Tb := if t.grabs s = true then ⟨t.us.set s.toNat ⟨1, (t.use s).sp⟩, t.live.set s.toNat 0⟩ else t
def shut (t : Tb) (s : Int) : Tb := if (t.has s && decide ((t.use s).st = 1)) = true then ⟨t.us.set s.toNat ⟨2, (t.use s).sp⟩, t.live⟩ else t
def touch (t : Tb) (s x : Int) : Tb := if (t.has s && decide (0 ≤ x ∧ x ≤ 2147483647)) = true then ⟨t.us.set s.toNat ⟨(t.use s).st, x⟩, t.live⟩ else t
def isFree (x : Us) : Bool := decide (x.st = 0)
def free (t : Tb) : Nat := t.us.countP isFree
/-- the first that is Free; -1: there is none -/
def idx (l : List Us) : Int := match l.findIdx? isFree with
 | some i => (i : Nat)
 | none => -1
def takes (t : Tb) (spare : Bool) : Bool := spare || decide (2 < t.free)
def new (n : Nat) : Tb := ⟨List.replicate n ⟨0, 0⟩, List.replicate n 0⟩
structure Ok (t : Tb) (n : Nat) : Prop where
 u : t.us.length = n
 l : t.live.length = n
theorem Ok.grab {t : Tb} {n : Nat} (h : t.Ok n) (s : Int) : (t.grab s).Ok n := by
 unfold Tb.grab
 split
 ·exact ⟨by rw [List.length_set]; exact h.u, by rw [List.length_set]; exact h.l⟩
 ·exact h
theorem Ok.shut {t : Tb} {n : Nat} (h : t.Ok n) (s : Int) : (t.shut s).Ok n := by
 unfold Tb.shut
 split
 ·exact ⟨by rw [List.length_set]; exact h.u, h.l⟩
 ·exact h
theorem Ok.touch {t : Tb} {n : Nat} (h : t.Ok n) (s x : Int) : (t.touch s x).Ok n := by
 unfold Tb.touch
 split
 ·exact ⟨by rw [List.length_set]; exact h.u, h.l⟩
 ·exact h
theorem new_ok (n : Nat) : (Tb.new n).Ok n := ⟨by simp [Tb.new], by simp [Tb.new]⟩
end Tb
/-- where a table lies -/
structure TD where
 T : Nat
 u : Nat
 v : Nat
 gb : Nat
 n : Nat
def TD.box (p : TD) : List Value := [.pointer (some ⟨p.gb, 0, none⟩), .slice (some ⟨p.u, 0, none⟩) p.n p.n, .slice (some ⟨p.v, 0, none⟩) p.n p.n]
def TD.L (p : TD) (t : Tb) (L : List (Nat × List Value)) : List (Nat × List Value) := (p.T, p.box) :: (p.u, usV t.us) :: (p.v, ivs t.live) :: L
theorem us_cell {w : World} {u : Nat} {l : List Us} (h : Own w u (usV l)) {i : Nat} (hi : i < l.length) : w.cell? ⟨u, i * 2, none⟩ = some (.int .i64 l[i].st) ∧ w.cell? ⟨u, i * 2 + 1, none⟩ = some (.int .i64 l[i].sp) := by
 have h0 : (usV l)[i * 2 + 0]? = some (Value.int .i64 l[i].st) := usV_get l i 0 hi (by decide)
 have h1 : (usV l)[i * 2 + 1]? = some (Value.int .i64 l[i].sp) := usV_get l i 1 hi (by decide)
 obtain ⟨a0, b0⟩ := List.getElem?_eq_some_iff.1 h0
 obtain ⟨a1, b1⟩ := List.getElem?_eq_some_iff.1 h1
 exact ⟨(h.cell (i * 2 + 0) a0).trans (congrArg some b0), (h.cell (i * 2 + 1) a1).trans (congrArg some b1)⟩
theorem us_get {t : Tb} {i : Nat} (hi : i < t.us.length) : t.use (i : Int) = t.us[i] := by
 unfold Tb.use
 rw [Int.toNat_natCast, List.getD_eq_getElem?_getD, List.getElem?_eq_getElem hi]
 rfl
end Go.Kn
namespace Go.Kn
open Go Go.RowKit
/-- the next segment that a list of records tells at its end -/
def nextIn (c : Cf) (l : List (Ps × Rc)) : Option Int := (l.getLast?.bind fun x => nextOf x.2).filter fun v => decide (v ≤ c.s - 1)
def turnP (q : Ps) (v : Int) : Ps := ⟨v, 0, q.l, q.p, q.m⟩
def onP (c : Cf) (r : Rc) (q : Ps) : Ps × Bool := match (nextOf r).filter (fun v => decide (v ≤ c.s - 1)) with
 | some v => (turnP q v, true)
 | none => (q, false)
def chainG (d : Dk) (c : Cf) : Nat → Ps → List (Ps × Rc) × Ps × Int
 | 0, p => ([], p, 0)
 | k + 1, p => match nextIn c (scanR d c false p).1 with
  | some v => ((scanR d c false p).1 ++ (chainG d c k (turnP (scanR d c false p).2.1 v)).1, (chainG d c k (turnP (scanR d c false p).2.1 v)).2)
  | none => scanR d c false p
theorem nextIn_nil (c : Cf) : nextIn c [] = none := rfl
theorem nextIn_snoc (c : Cf) (l : List (Ps × Rc)) (x : Ps × Rc) : nextIn c (l ++ [x]) = (nextOf x.2).filter fun v => decide (v ≤ c.s - 1) := by simp [nextIn]
/-- the place behind the last that is told is where the next is sought -/
theorem scanG_last {d : Dk} {c : Cf} : ∀ (k : Nat) (p : Ps) (l : List (Ps × Rc)) (x : Ps × Rc), (scanG d c k p).1 = l ++ [x] → follow d c x.1 = (some (x.2, (scanG d c k p).2.1), 0) ∧ ((nextOf x.2).isSome → (scanG d c k p).2.2 = 0)
 | 0, _, l, x, h => by simp [scanG] at h
 | k + 1, p, l, x, h => by
  rcases hf : follow d c p with ⟨_ | ⟨r, q⟩, e⟩
  ·rw [scanG_none hf] at h; simp at h
  ·obtain ⟨_, _, _, rfl⟩ := follow_place hf
   rw [scanG_some hf] at h ⊢
   cases hn : (nextOf r).isSome with
   | true =>
    rw [hn, if_pos rfl] at h
    rw [if_pos rfl]
    simp only at h ⊢
    cases l with
    | nil =>
     simp only [List.nil_append, List.cons.injEq, and_true] at h
     subst h
     exact ⟨hf, fun _ => trivial⟩
    | cons y l => simp at h
   | false =>
    rw [hn, if_neg (by simp)] at h
    rw [if_neg (by simp)]
    simp only at h ⊢
    cases l with
    | nil =>
     simp only [List.nil_append, List.cons.injEq] at h
     obtain ⟨rfl, h2⟩ := h
     refine ⟨?_, fun h => by rw [hn] at h; cases h⟩
     cases k with
     | zero => exact hf
     | succ k =>
      rcases hf2 : follow d c q with ⟨_ | ⟨r2, q2⟩, e2⟩
      ·rw [scanG_none hf2]; exact hf
      ·rw [scanG_some hf2] at h2
       split at h2 <;> simp at h2
    | cons y l =>
     simp only [List.cons_append, List.cons.injEq] at h
     exact scanG_last k q l x h.2
theorem scanR_last {d : Dk} {c : Cf} {own : Bool} {p : Ps} {l : List (Ps × Rc)} {x : Ps × Rc} (h : (scanR d c own p).1 = l ++ [x]) : follow d c x.1 = (some (x.2, (scanR d c own p).2.1), 0) ∧ ((nextOf x.2).isSome → (scanR d c own p).2.2 = 0) := by
 unfold scanR at h ⊢
 split
 ·rename_i hb
  rw [if_pos hb] at h
  exact scanG_last _ _ _ _ h
 ·rename_i hb
  rw [if_neg hb] at h
  simp at h
theorem follow_num {d : Dk} {c : Cf} {p q : Ps} {r : Rc} {e : Int} (h : follow d c p = (some (r, q), e)) : r.n = p.l ∧ q.l = p.l + 1 ∧ 1 ≤ p.l ∧ p.l ≤ 2147483647 ∧ r.p = p.p ∧ q.m = r.m ∧ p.m ≤ r.m ∧ q.p = (rcSum r : Nat) ∧ rcMay r = true := by
 unfold follow at h
 split at h
 ·split at h
  ·split at h
   ·cases h
   ·split at h
    ·split at h
     ·cases h
     ·rename_i r' s hd
      split at h
      ·rename_i hc
       injection h with h1 h2
       injection h1 with h1
       injection h1 with h1 h3
       subst h1
       obtain ⟨he, _, _⟩ := encRc_of_dec hd
       obtain ⟨hm, hs, _, _, _, _, hn, _⟩ := enc_some he
       obtain ⟨_, _, hs⟩ := of_enc he
       subst h3
       refine ⟨hc.1, rfl, by omega, by omega, hc.2.1, rfl, by have := hc.2.2; omega, ?_, hm⟩
       simp only
       rw [hs]
      ·cases h
    ·cases h
  ·cases h
 ·cases h
end Go.Kn
namespace Go.Kn
open Go Go.RowKit
/-- what is laid to tell the next segment -/
def nextR (q : Ps) (v : Int) : Rc := ⟨q.m, q.l, q.p, [⟨7, 0, 0, v⟩], []⟩
def nextP (q : Ps) (v o : Int) : Ps := ⟨v, o, q.l + 1, (rcSum (nextR q v) : Nat), q.m⟩
/-- kit.Turn -/
def turnRun (c : Cf) (v : Int) (head : Bool) (q : Ps) (d : Dk) : Ps × Dk :=
 if head = true then (nextP q v 1, (d.puts (c.at_ q.s + q.o) (rcBytes (nextR q v))).puts (c.at_ v) (headB (nextP q v 0)))
 else (nextP q v 0, d.puts (c.at_ q.s + q.o) (rcBytes (nextR q v)))
structure PR where
 recs : List KR
 next : Int
 lost : Bool
theorem nextR_ok {q : Ps} {v : Int} (hm : 1 ≤ q.m ∧ q.m ≤ 2147483647) (hl : 1 ≤ q.l ∧ q.l ≤ 2147483647) (hp : 0 ≤ q.p ∧ q.p ≤ 4294967295) (hv : 0 ≤ v ∧ v ≤ 31) : rcMay (nextR q v) = true ∧ nextOf (nextR q v) = some v := by
 refine ⟨?_, rfl⟩
 rw [rcMay_iff]
 refine ⟨⟨hm, hl, hp, by simp [nextR]⟩, ?_, ?_, rfl⟩
 ·have := (may_k 7 0 0 v).2 (.inr (.inr (.inr (.inr ⟨rfl, rfl, rfl, hv⟩))))
  simp [nextR, this]
 ·have := loads_one ⟨7, 0, 0, v⟩ ((may_k 7 0 0 v).2 (.inr (.inr (.inr (.inr ⟨rfl, rfl, rfl, hv⟩)))))
  simpa [nextR] using this.symm
/-- segments that a log goes along -/
structure Sgs (c : Cf) (sg : Nat → Int) (T : Nat) : Prop where
 ok : c.Ok
 s : c.s = 8
 l : c.l = 24
 r : ∀ t, t < T → 0 ≤ sg t ∧ sg t ≤ 7
 inj : ∀ t u, t < T → u < T → sg t = sg u → t = u
section
variable {c : Cf} {sg : Nat → Int} {T : Nat} {d d' : Dk}
def Sec (c : Cf) (sg : Nat → Int) (y : Nat) : Int := c.at_ (sg (y / 24)) + ((y % 24 : Nat) : Int)
theorem Sgs.base (h : Sgs c sg T) : ∃ b : Int, 2 ≤ b ∧ b + 192 ≤ c.sectors ∧ c.sectors ≤ 4096 ∧ ∀ k, 0 ≤ k → k ≤ 7 → c.at_ k = b + 24 * k := by
 have hs := h.s
 have hl := h.l
 obtain ⟨g1, _, g3⟩ := Cf.sec c h.ok 0 (by decide) (by omega)
 obtain ⟨_, g2, _⟩ := Cf.sec c h.ok 7 (by decide) (by omega)
 have e : ∀ k, 0 ≤ k → k ≤ 7 → c.at_ k = c.at_ 0 + 24 * k := by
  intro k h0 h1
  unfold Cf.at_
  rw [if_pos ⟨h0, by omega⟩, if_pos ⟨by decide, by omega⟩, hl]
  omega
 have e7 := e 7 (by decide) (by decide)
 exact ⟨c.at_ 0, g1, by omega, g3, e⟩
theorem Sgs.sec (h : Sgs c sg T) {y : Nat} (hy : y < 24 * T) : 2 ≤ Sec c sg y ∧ Sec c sg y + 1 ≤ c.sectors := by
 obtain ⟨b, h1, h2, _, h3⟩ := h.base
 obtain ⟨r1, r2⟩ := h.r (y / 24) (by omega)
 unfold Sec
 rw [h3 _ r1 r2]
 omega
theorem Sgs.ne (h : Sgs c sg T) {y z : Nat} (hy : y < 24 * T) (hz : z < 24 * T) (hn : y ≠ z) : Sec c sg y ≠ Sec c sg z := by
 intro e
 obtain ⟨b, _, _, _, h3⟩ := h.base
 obtain ⟨r1, r2⟩ := h.r (y / 24) (by omega)
 obtain ⟨r3, r4⟩ := h.r (z / 24) (by omega)
 unfold Sec at e
 rw [h3 _ r1 r2, h3 _ r3 r4] at e
 have := h.inj (y / 24) (z / 24) (by omega) (by omega) (by omega)
 omega
structure PlY (sg : Nat → Int) (T Y : Nat) (q : Ps) : Prop where
 s : q.s = sg (Y / 24)
 o : q.o = ((Y % 24 : Nat) : Int)
 o1 : 1 ≤ Y % 24
 lt : Y < 24 * T
theorem PlY.sec {Y : Nat} {q : Ps} (h : PlY sg T Y q) : c.at_ q.s + q.o = Sec c sg Y := by unfold Sec; rw [h.s, h.o]
theorem PlY.seg (hs : Sgs c sg T) {Y : Nat} {q : Ps} (h : PlY sg T Y q) : 0 ≤ q.s ∧ q.s ≤ c.s - 1 := by
 have := hs.r (Y / 24) (by have := h.lt; omega)
 rw [h.s, hs.s]
 omega
/-- records that follow one another along the segments -/
inductive Run (c : Cf) (sg : Nat → Int) (T : Nat) (d : Dk) : Nat → Ps → List (Ps × Rc) → Nat → Ps → Prop
 | nil {Y : Nat} {q : Ps} : PlY sg T Y q → Run c sg T d Y q [] Y q
 | cons {Y Y' : Nat} {q q1 q' : Ps} {r : Rc} {l : List (Ps × Rc)} : PlY sg T Y q → follow d c q = (some (r, q1), 0) → q1.o = q.o + 1 → nextOf r = none → Run c sg T d (Y + 1) q1 l Y' q' → Run c sg T d Y q ((q, r) :: l) Y' q'
 | turn {Y Y' : Nat} {q q1 q' : Ps} {r : Rc} {l : List (Ps × Rc)} : PlY sg T Y q → follow d c q = (some (r, q1), 0) → q1.o = q.o + 1 → nextOf r = some (sg (Y / 24 + 1)) → Hd d c ⟨sg (Y / 24 + 1), 0, q1.l, q1.p, q1.m⟩ →
   Run c sg T d (24 * (Y / 24 + 1) + 1) ⟨sg (Y / 24 + 1), 1, q1.l, q1.p, q1.m⟩ l Y' q' → Run c sg T d Y q ((q, r) :: l) Y' q'
theorem Run.pl {Y Y' : Nat} {q q' : Ps} {l : List (Ps × Rc)} (h : Run c sg T d Y q l Y' q') : PlY sg T Y q ∧ PlY sg T Y' q' ∧ Y + l.length ≤ Y' := by
 induction h with
 | nil h => exact ⟨h, h, Nat.le_refl _⟩
 | cons h _ _ _ _ ih => exact ⟨h, ih.2.1, by rw [List.length_cons]; have := ih.2.2; omega⟩
 | turn h _ _ _ _ _ ih => exact ⟨h, ih.2.1, by rw [List.length_cons]; have := ih.2.2; omega⟩
theorem Run.app {Y Y1 Y2 : Nat} {q q1 q2 : Ps} {l l2 : List (Ps × Rc)} (h : Run c sg T d Y q l Y1 q1) (h2 : Run c sg T d Y1 q1 l2 Y2 q2) : Run c sg T d Y q (l ++ l2) Y2 q2 := by
 induction h with
 | nil _ => exact h2
 | cons a b e f _ ih => exact .cons a b e f (ih h2)
 | turn a b e f g _ ih => exact .turn a b e f g (ih h2)
theorem Run.agr {Y Y' : Nat} {q q' : Ps} {l : List (Ps × Rc)} (h : Run c sg T d Y q l Y' q') (ha : ∀ y, Y ≤ y → y < Y' → d'.err (Sec c sg y) = d.err (Sec c sg y) ∧ d'.read (Sec c sg y) = d.read (Sec c sg y)) : Run c sg T d' Y q l Y' q' := by
 have one : ∀ {Y : Nat} {q q1 : Ps} {r : Rc}, PlY sg T Y q → follow d c q = (some (r, q1), 0) → q1.o = q.o + 1 → d'.err (Sec c sg Y) = d.err (Sec c sg Y) ∧ d'.read (Sec c sg Y) = d.read (Sec c sg Y) → follow d' c q = (some (r, q1), 0) := by
  intro Y q q1 r hp hf ho he
  have hsec := hp.sec (c := c)
  refine follow_agr2 (lo := Sec c sg Y) (hi := Sec c sg Y + 1) ?_ (by omega) hf (by omega)
  intro x h1 h2
  obtain rfl : x = Sec c sg Y := by omega
  exact he
 induction h with
 | nil h => exact .nil h
 | cons hp hf ho hn hr ih =>
  have hl := hr.pl.2.2
  exact .cons hp (one hp hf ho (ha _ (Nat.le_refl _) (by omega))) ho hn (ih (fun y h1 h2 => ha y (by omega) h2))
 | turn hp hf ho hn hh hr ih =>
  rename_i Y Y' q q1 q' r l
  have hl := hr.pl.2.2
  refine .turn hp (one hp hf ho (ha _ (Nat.le_refl _) (by omega))) ho hn ?_ (ih (fun y h1 h2 => ha y (by omega) h2))
  have hs : c.at_ (sg (Y / 24 + 1)) = Sec c sg (24 * (Y / 24 + 1)) := by
   unfold Sec
   rw [show 24 * (Y / 24 + 1) / 24 = Y / 24 + 1 from by omega, show 24 * (Y / 24 + 1) % 24 = 0 from by omega]
   simp
  obtain ⟨e1, e2⟩ := ha (24 * (Y / 24 + 1)) (by omega) (by omega)
  rw [← hs] at e1 e2
  exact ⟨e1.trans hh.e, e2.trans hh.r, hh.may⟩
theorem Run.split {Y Y' : Nat} {q q' : Ps} {l : List (Ps × Rc)} (h : Run c sg T d Y q l Y' q') : ∀ k, k ≤ l.length → ∃ Yk qk, Run c sg T d Y q (l.take k) Yk qk ∧ Run c sg T d Yk qk (l.drop k) Y' q' ∧ (∀ x, l[k]? = some x → x.1 = qk) := by
 induction h with
 | nil h => exact fun k _ => ⟨_, _, by rw [List.take_nil]; exact .nil h, by rw [List.drop_nil]; exact .nil h, fun x hx => by simp at hx⟩
 | cons hp hf ho hn hr ih =>
  intro k hk
  cases k with
  | zero => exact ⟨_, _, .nil hp, .cons hp hf ho hn hr, fun x hx => by simp at hx; rw [← hx]⟩
  | succ k =>
   obtain ⟨Yk, qk, h1, h2, h3⟩ := ih k (by simpa using hk)
   exact ⟨Yk, qk, .cons hp hf ho hn h1, h2, fun x hx => h3 x (by simpa using hx)⟩
 | turn hp hf ho hn hh hr ih =>
  intro k hk
  cases k with
  | zero => exact ⟨_, _, .nil hp, .turn hp hf ho hn hh hr, fun x hx => by simp at hx; rw [← hx]⟩
  | succ k =>
   obtain ⟨Yk, qk, h1, h2, h3⟩ := ih k (by simpa using hk)
   exact ⟨Yk, qk, .turn hp hf ho hn hh h1, h2, fun x hx => h3 x (by simpa using hx)⟩
theorem Run.nums {Y Y' : Nat} {q q' : Ps} {l : List (Ps × Rc)} (h : Run c sg T d Y q l Y' q') : q'.l = q.l + (l.length : Nat) ∧ ∀ i (x : Ps × Rc), l[i]? = some x → x.1.l = q.l + (i : Nat) ∧ x.2.n = q.l + (i : Nat) ∧ x.2.p = x.1.p := by
 have step : ∀ {q q1 : Ps} {r : Rc} {l : List (Ps × Rc)} {q' : Ps}, follow d c q = (some (r, q1), 0) → (q'.l = q1.l + (l.length : Nat) ∧ ∀ i (x : Ps × Rc), l[i]? = some x → x.1.l = q1.l + (i : Nat) ∧ x.2.n = q1.l + (i : Nat) ∧ x.2.p = x.1.p) →
   (q'.l = q.l + (((q, r) :: l).length : Nat) ∧ ∀ i (x : Ps × Rc), ((q, r) :: l)[i]? = some x → x.1.l = q.l + (i : Nat) ∧ x.2.n = q.l + (i : Nat) ∧ x.2.p = x.1.p) := by
  intro q q1 r l q' hf ih
  obtain ⟨f1, f2, _, _, f5, _⟩ := follow_num hf
  refine ⟨by rw [ih.1, f2, List.length_cons]; push_cast; omega, ?_⟩
  intro i x hx
  cases i with
  | zero =>
   simp at hx
   rw [← hx]
   exact ⟨by simp, by simp [f1], f5⟩
  | succ i =>
   obtain ⟨g1, g2, g3⟩ := ih.2 i x (by simpa using hx)
   rw [f2] at g1 g2
   exact ⟨by rw [g1]; push_cast; omega, by rw [g2]; push_cast; omega, g3⟩
 induction h with
 | nil h => exact ⟨by simp, fun i x hx => by simp at hx⟩
 | cons hp hf ho hn hr ih => exact step hf ih
 | turn hp hf ho hn hh hr ih => exact step hf ih
def chM (d : Dk) (c : Cf) (K : Nat) (x : List (Ps × Rc) × Ps × Int) : List (Ps × Rc) × Ps × Int := match nextIn c x.1 with
 | some v => (x.1 ++ (chainG d c K (turnP x.2.1 v)).1, (chainG d c K (turnP x.2.1 v)).2)
 | none => x
theorem chainG_M (d : Dk) (c : Cf) (K : Nat) (p : Ps) : chainG d c (K + 1) p = chM d c K (scanR d c false p) := by
 unfold chainG chM
 cases nextIn c (scanR d c false p).1 <;> rfl
theorem nextIn_cons {c : Cf} {x : Ps × Rc} {l : List (Ps × Rc)} (h : nextOf x.2 = none) : nextIn c (x :: l) = nextIn c l := by
 rcases List.eq_nil_or_concat l with rfl | ⟨l', y, rfl⟩
 ·rw [nextIn_nil, show [x] = [] ++ [x] from rfl, nextIn_snoc, h]
  rfl
 ·rw [List.concat_eq_append, ← List.cons_append, nextIn_snoc, nextIn_snoc]
theorem chM_cons {d : Dk} {c : Cf} {K : Nat} {x : Ps × Rc} {l : List (Ps × Rc)} {y : Ps × Int} (h : nextOf x.2 = none) : chM d c K (x :: l, y) = (x :: (chM d c K (l, y)).1, (chM d c K (l, y)).2) := by
 unfold chM
 simp only [nextIn_cons h]
 cases nextIn c l <;> rfl
/-- a log is told as it stands -/
theorem Run.chain (hs : Sgs c sg T) {Y Y' : Nat} {q q' : Ps} {l : List (Ps × Rc)} {e : Int} (h : Run c sg T d Y q l Y' q') (hf : follow d c q' = (none, e)) : ∀ f K, 65 ≤ f + Y % 24 → l.length ≤ K → chM d c K (scanG d c f q) = (l, q', e) := by
 induction h with
 | nil h =>
  intro f K h1 _
  obtain ⟨f, rfl⟩ : ∃ g, f = g + 1 := ⟨f - 1, by omega⟩
  rw [scanG_none hf]
  rfl
 | cons hp hf' ho hn hr ih =>
  intro f K h1 h2
  have hp2 := hr.pl.1
  have e1 := hp.o
  have e2 := hp2.o
  obtain ⟨f, rfl⟩ : ∃ g, f = g + 1 := ⟨f - 1, by omega⟩
  have := ih hf f K (by omega) (by simp at h2; omega)
  rw [scanG_some hf', hn]
  simp only [Option.isSome_none, Bool.false_eq_true, if_false]
  have e3 : chM d c K ((scanG d c f _).1, (scanG d c f _).2) = _ := this
  rw [chM_cons hn, e3]
 | turn hp hf' ho hn hh hr ih =>
  rename_i Y Y' q q1 q' r l
  intro f K h1 h2
  obtain ⟨f, rfl⟩ : ∃ g, f = g + 1 := ⟨f - 1, by omega⟩
  obtain ⟨K, rfl⟩ : ∃ g, K = g + 1 := ⟨K - 1, by simp at h2; omega⟩
  have hlt := hr.pl.1.lt
  have hv := hs.r (Y / 24 + 1) (by omega)
  have hc := hs.s
  rw [scanG_some hf', hn]
  simp only [Option.isSome_some, if_true]
  have hni : nextIn c [(q, r)] = some (sg (Y / 24 + 1)) := by
   rw [show [(q, r)] = [] ++ [(q, r)] from rfl, nextIn_snoc, hn]
   simp [Option.filter]
   omega
  have e1 : scanR d c false (turnP q1 (sg (Y / 24 + 1))) = scanG d c 65 ⟨sg (Y / 24 + 1), 1, q1.l, q1.p, q1.m⟩ := (hh.scan hs.ok ⟨hv.1, by show sg (Y / 24 + 1) ≤ _; omega⟩).1
  have e2 := ih hf 65 K (by omega) (by simp at h2; omega)
  unfold chM
  rw [hni]
  simp only
  rw [chainG_M, e1, e2]
  rfl
/-- a log that was laid on a new disk: noughts behind it -/
structure RL (c : Cf) (sg : Nat → Int) (T : Nat) (d : Dk) (q0 : Ps) (l : List (Ps × Rc)) (Y : Nat) (q : Ps) : Prop where
 rdy : Rdy d
 len : (d.safe.length : Int) = c.sectors
 run : Run c sg T d 1 q0 l Y q
 hd : Hd d c ⟨sg 0, 0, q0.l, q0.p, q0.m⟩
 zs : ∀ y, Y ≤ y → y < 24 * T → d.read (Sec c sg y) = List.replicate 64 0
 ql : q.l = q0.l + (l.length : Nat)
 qm : q.m = q0.m
 qp : 0 ≤ q.p ∧ q.p ≤ 4294967295
 b : (1 ≤ q0.l ∧ q0.l ≤ 1000) ∧ (1 ≤ q0.m ∧ q0.m ≤ 1000)
theorem RL.nums (hs : Sgs c sg T) (h4 : T ≤ 8) {q0 q : Ps} {l : List (Ps × Rc)} {Y : Nat} (h : RL c sg T d q0 l Y q) : (1 ≤ q.m ∧ q.m ≤ 2147483647) ∧ (1 ≤ q.l ∧ q.l ≤ 2147483647) := by
 have h1 := h.run.pl.2.2
 have h2 := h.run.pl.2.1.lt
 have h3 := h.b
 have h5 := h.ql
 have h6 := h.qm
 omega
theorem Sec_head (t : Nat) : Sec c sg (24 * t) = c.at_ (sg t) := by
 unfold Sec
 rw [show 24 * t / 24 = t from by omega, show 24 * t % 24 = 0 from by omega]
 simp
theorem RL.none_ (hs : Sgs c sg T) {q0 q : Ps} {l : List (Ps × Rc)} {Y : Nat} (h : RL c sg T d q0 l Y q) : follow d c q = (none, 0) := by
 have hp := h.run.pl.2.1
 obtain ⟨g1, g2⟩ := hs.sec hp.lt
 have hl := h.len
 refine follow_zero ?_ ?_
 ·rw [hp.sec]; exact h.rdy.err0 (has_of (by omega) (by omega))
 ·rw [hp.sec]; exact h.zs Y (Nat.le_refl _) hp.lt
/-- a row is put where the log ends: what stands elsewhere stays -/
theorem put_else (hs : Sgs c sg T) (hr : Rdy d) (hl : (d.safe.length : Int) = c.sectors) {y : Nat} (hy : y < 24 * T) {b : List UInt8} (hb : b.length = 64) :
  Rdy (d.puts (Sec c sg y) b) ∧ ((d.puts (Sec c sg y) b).safe.length : Int) = c.sectors ∧ (d.puts (Sec c sg y) b).err (Sec c sg y) = 0 ∧ (d.puts (Sec c sg y) b).read (Sec c sg y) = b ∧
   (∀ z, z < 24 * T → z ≠ y → (d.puts (Sec c sg y) b).err (Sec c sg z) = d.err (Sec c sg z) ∧ (d.puts (Sec c sg y) b).read (Sec c sg z) = d.read (Sec c sg z)) := by
 obtain ⟨g1, g2⟩ := hs.sec hy
 have h1 := hr.puts (a := Sec c sg y) (b := b) (n := 1) (by omega) hb (by omega)
 obtain ⟨h2, h3⟩ := hr.puts_gat (a := Sec c sg y) (b := b) (n := 1) (by omega) hb (by omega)
 rw [gat_one] at h2
 rw [gerr_one] at h3
 refine ⟨h1.1, by rw [h1.2.2]; exact hl, h3, h2, fun z hz hn => ?_⟩
 have hne := hs.ne hz hy hn
 obtain ⟨g3, g4⟩ := hs.sec hz
 exact hr.puts_agr (a := Sec c sg y) (b := b) (n := 1) (lo := Sec c sg z) (hi := Sec c sg z + 1) (by omega) hb (by omega) (by omega) (by omega) _ (Int.le_refl _) (by omega)
theorem head_may {s o l p m : Int} (h1 : 0 ≤ s ∧ s ≤ 31) (h2 : 1 ≤ l ∧ l ≤ 2147483647) (h3 : 0 ≤ p ∧ p ≤ 4294967295) (h4 : 1 ≤ m ∧ m ≤ 2147483647) : headMay (⟨s, o, l, p, m⟩ : Ps).head = true := by
 show headMay ⟨s, m, l, p⟩ = true
 unfold headMay
 simp only [Bool.and_eq_true, decide_eq_true_eq]
 exact ⟨⟨⟨h1, h4⟩, h2⟩, h3⟩
theorem rcSum_lt2 {r : Rc} (h : rcMay r = true) : rcSum r < 4294967296 := (enc_some (enc_rc h)).2.2.2.2.2.2.2
theorem rcBytes_64 {r : Rc} (h : rcMay r = true) (hb : r.bl = []) : (rcBytes r).length = 64 := by have := rcBytes_length h; rw [hb] at this; simpa using this
/-- one record more, of one sector -/
theorem RL.step (hs : Sgs c sg T) {q0 q : Ps} {l : List (Ps × Rc)} {Y : Nat} (h : RL c sg T d q0 l Y q) (ho : Y % 24 ≤ 22) {r : Rc} (hr : rcMay r = true) (hb : r.bl = []) (hn : r.n = q.l) (hp : r.p = q.p) (hm : r.m = q.m) :
  ∃ d1, d1 = d.puts (c.at_ q.s + q.o) (rcBytes r) ∧ Rdy d1 ∧ (d1.safe.length : Int) = c.sectors ∧ Run c sg T d1 1 q0 l Y q ∧ Hd d1 c ⟨sg 0, 0, q0.l, q0.p, q0.m⟩ ∧ follow d1 c q = (some (r, ⟨q.s, q.o + 1, q.l + 1, (rcSum r : Nat), r.m⟩), 0) ∧
   (∀ z, z < 24 * T → z ≠ Y → d1.read (Sec c sg z) = d.read (Sec c sg z)) := by
 have hpl := h.run.pl.2.1
 have hY := h.run.pl.2.2
 have hsec := hpl.sec (c := c)
 obtain ⟨h1, h2, h3, h4, h5⟩ := put_else hs h.rdy h.len hpl.lt (rcBytes_64 hr hb)
 have hlt := hpl.lt
 refine ⟨_, rfl, ?_⟩
 rw [hsec]
 refine ⟨h1, h2, h.run.agr (fun y a b => h5 y (by omega) (by omega)), ?_, ?_, fun z a b => (h5 z a b).2⟩
 ·obtain ⟨e1, e2⟩ := h5 0 (by omega) (by omega)
  have e3 : Sec c sg 0 = c.at_ (sg 0) := Sec_head 0
  rw [e3] at e1 e2
  exact ⟨e1.trans h.hd.e, e2.trans h.hd.r, h.hd.may⟩
 ·have hl := hs.l
  have hoo := hpl.o
  have ho1 := hpl.o1
  have := follow_laid (d := d.puts (Sec c sg Y) (rcBytes r)) (c := c) (q := q) hr (by rw [hb, hsec]; show gat _ _ 1 = _; rw [gat_one]; exact h4) (by rw [hb, hsec]; show gerr _ _ 1 = _; rw [gerr_one]; exact h3) h1.ok (by omega) (by rw [hb]; simp; omega) hn hp (by omega)
  rw [hb] at this
  exact this
/-- the next segment is told, its head laid -/
theorem RL.turn (hs : Sgs c sg T) (h4 : T ≤ 8) {q0 q : Ps} {l : List (Ps × Rc)} {Y : Nat} (h : RL c sg T d q0 l Y q) (ho : Y % 24 ≤ 22) (hT : Y / 24 + 1 < T) :
  ∃ q' d', turnRun c (sg (Y / 24 + 1)) true q d = (q', d') ∧ RL c sg T d' q0 (l ++ [(q, nextR q (sg (Y / 24 + 1)))]) (24 * (Y / 24 + 1) + 1) q' := by
 obtain ⟨n1, n2⟩ := h.nums hs h4
 obtain ⟨v1, v2⟩ := hs.r (Y / 24 + 1) hT
 obtain ⟨k1, k2⟩ := nextR_ok (v := sg (Y / 24 + 1)) n1 n2 h.qp ⟨v1, by omega⟩
 obtain ⟨d1, hd1, e1, e2, e3, e4, e5, e6⟩ := h.step hs ho k1 rfl rfl rfl rfl
 have hpl := h.run.pl.2.1
 have hlt := hpl.lt
 have hY := h.run.pl.2.2
 have hsum := rcSum_lt2 k1
 have hql := h.ql
 have hb := h.b
 have hmay : headMay (nextP q (sg (Y / 24 + 1)) 0).head = true := by
  exact head_may ⟨v1, by omega⟩ ⟨by omega, by omega⟩ ⟨by omega, by omega⟩ n1
 have hh := Sec_head (c := c) (sg := sg) (Y / 24 + 1)
 obtain ⟨f1, f2, f3, f4, f5⟩ := put_else hs e1 e2 (y := 24 * (Y / 24 + 1)) (by omega) (headB_length (nextP q (sg (Y / 24 + 1)) 0))
 refine ⟨nextP q (sg (Y / 24 + 1)) 1, d1.puts (Sec c sg (24 * (Y / 24 + 1))) (headB (nextP q (sg (Y / 24 + 1)) 0)), ?_, ?_⟩
 ·unfold turnRun
  rw [if_pos rfl, ← hd1, ← hh]
 ·have hrun := e3.agr (d' := d1.puts (Sec c sg (24 * (Y / 24 + 1))) (headB (nextP q (sg (Y / 24 + 1)) 0))) (fun y a b => f5 y (by omega) (by omega))
  have hfl : follow (d1.puts (Sec c sg (24 * (Y / 24 + 1))) (headB (nextP q (sg (Y / 24 + 1)) 0))) c q = (some (nextR q (sg (Y / 24 + 1)), ⟨q.s, q.o + 1, q.l + 1, (rcSum (nextR q (sg (Y / 24 + 1))) : Nat), q.m⟩), 0) := by
   have hsec := hpl.sec (c := c)
   refine follow_agr2 (lo := Sec c sg Y) (hi := Sec c sg Y + 1) ?_ (by omega) e5 (by show c.at_ q.s + (q.o + 1) ≤ _; omega)
   intro x h1 h2
   obtain rfl : x = Sec c sg Y := by omega
   exact f5 Y hlt (by omega)
  have hd2 : Hd (d1.puts (Sec c sg (24 * (Y / 24 + 1))) (headB (nextP q (sg (Y / 24 + 1)) 0))) c (nextP q (sg (Y / 24 + 1)) 0) := by
   rw [hh] at f3 f4 ⊢
   exact ⟨f3, f4, hmay⟩
  have hp2 : PlY sg T (24 * (Y / 24 + 1) + 1) (nextP q (sg (Y / 24 + 1)) 1) := by
   have e : (24 * (Y / 24 + 1) + 1) / 24 = Y / 24 + 1 := by omega
   have e' : (24 * (Y / 24 + 1) + 1) % 24 = 1 := by omega
   refine ⟨?_, by rw [e']; rfl, by omega, by omega⟩
   rw [e]
   rfl
  refine ⟨f1, f2, hrun.app (.turn hpl hfl rfl k2 hd2 (.nil hp2)), ?_, fun y a b => ((f5 y b (by omega)).2.trans (e6 y b (by omega))).trans (h.zs y (by omega) b), ?_, h.qm, ⟨?_, ?_⟩, h.b⟩
  ·obtain ⟨a1, a2⟩ := f5 0 (by omega) (by omega)
   have e3 : Sec c sg 0 = c.at_ (sg 0) := Sec_head 0
   rw [e3] at a1 a2
   exact ⟨a1.trans e4.e, a2.trans e4.r, e4.may⟩
  ·show q.l + 1 = _
   rw [List.length_append, h.ql]
   simp
   omega
  ·show 0 ≤ ((rcSum (nextR q (sg (Y / 24 + 1))) : Nat) : Int)
   omega
  ·show ((rcSum (nextR q (sg (Y / 24 + 1))) : Nat) : Int) ≤ 4294967295
   omega
theorem RL.start (hs : Sgs c sg T) (hT : 0 < T) {p : Ps} (hps : p.s = sg 0) (hl : 1 ≤ p.l ∧ p.l ≤ 1000) (hm : 1 ≤ p.m ∧ p.m ≤ 1000) (hp : 0 ≤ p.p ∧ p.p ≤ 4294967295) :
  RL c sg T ((Dk.new c.sectors.toNat).puts (c.at_ p.s) (headB p)) ⟨p.s, 1, p.l, p.p, p.m⟩ [] 1 ⟨p.s, 1, p.l, p.p, p.m⟩ := by
 obtain ⟨b, b1, b2, b3, _⟩ := hs.base
 obtain ⟨v1, v2⟩ := hs.r 0 hT
 have hr : Rdy (Dk.new c.sectors.toNat) := Rdy.new (by omega) (by omega)
 have hlen : ((Dk.new c.sectors.toNat).safe.length : Int) = c.sectors := by simp [Dk.new]; omega
 have hh : Sec c sg 0 = c.at_ p.s := by rw [hps]; exact Sec_head 0
 have hmay : headMay p.head = true := head_may ⟨by rw [hps]; exact v1, by rw [hps]; omega⟩ ⟨hl.1, by omega⟩ hp ⟨hm.1, by omega⟩
 obtain ⟨f1, f2, f3, f4, f5⟩ := put_else hs hr hlen (y := 0) (by omega) (headB_length p)
 rw [hh] at f1 f2 f3 f4 f5
 refine ⟨f1, f2, .nil ⟨hps, rfl, by decide, by show 1 < 24 * T; omega⟩, ?_, fun y a b => ?_, by simp, rfl, hp, hl, hm⟩
 ·refine ⟨?_, ?_, ?_⟩
  ·show Dk.err _ (c.at_ (sg 0)) = 0
   rw [← hps]; exact f3
  ·show Dk.read _ (c.at_ (sg 0)) = _
   rw [← hps, f4]
   unfold headB Ps.head
   rw [hps]
  ·unfold Ps.head at hmay ⊢
   rw [hps] at hmay
   exact hmay
 ·rw [(f5 y b (by omega)).2]
  obtain ⟨g1, g2⟩ := hs.sec b
  exact read_new _ _ (by omega) (by omega) (by omega)
end
end Go.Kn
namespace Go.Kn
open Go Go.RowKit
structure Wr where
 d : Dk
 t : Tb
 p : Ps
 its : List It
 bl : List (List UInt8)
/-- the place in the segment behind a record of so many blocks -/
def behind (o : Int) (n : Nat) : Int := max o 1 + 1 + (n : Int)
/-- sectors one behind the other, till one is refused -/
def seqW (d : Dk) (a : Int) : List (List UInt8) → Dk × Int
 | [] => (d, 0)
 | x :: xs => if (d.write a x).2 = 0 then seqW (d.write a x).1 (a + 1) xs else d.write a x
/-- n rows of 64 bytes -/
def rows64 (b : List UInt8) (n : Nat) : List (List UInt8) := (List.range n).map fun i => (b.drop (64 * i)).take 64
namespace Wr
def fits (c : Cf) (o : Int) (items blocks : Nat) : Bool := decide (items ≤ 6) && decide (behind o blocks < c.l)
def first (c : Cf) (w : Wr) : Int := c.at_ w.p.s + behind w.p.o 0
def begin_ (c : Cf) (w : Wr) : Wr × Int :=
 if 0 < w.p.o then (w, 0)
 else match encHead w.p.head with
  | none => (w, 1)
  | some b => if (w.d.write (c.at_ w.p.s) b).2 = 0 then ({ w with d := (w.d.write (c.at_ w.p.s) b).1, p := { w.p with o := 1 } }, 0) else ({ w with d := (w.d.write (c.at_ w.p.s) b).1 }, (w.d.write (c.at_ w.p.s) b).2)
def write (c : Cf) (w : Wr) (its : List It) (bl : List (List UInt8)) : Wr × Int :=
 match encRc ⟨w.p.m, w.p.l, w.p.p, its, bl⟩ with
 | none => (w, 1)
 | some (b, s) =>
  if (seqW w.d (c.at_ w.p.s + w.p.o) (rows64 b (b.length / 64))).2 = 0 then
   ({ w with d := (seqW w.d (c.at_ w.p.s + w.p.o) (rows64 b (b.length / 64))).1, t := w.t.touch w.p.s w.p.l, p := ⟨w.p.s, behind w.p.o bl.length, w.p.l + 1, (s : Nat), w.p.m⟩ }, 0)
  else ({ w with d := (seqW w.d (c.at_ w.p.s + w.p.o) (rows64 b (b.length / 64))).1 }, (seqW w.d (c.at_ w.p.s + w.p.o) (rows64 b (b.length / 64))).2)
def emit (c : Cf) (w : Wr) : Wr × Int :=
 if w.d.off = true then (w, 3)
 else if w.its = [] then (w, 0)
 else if (w.begin_ c).2 ≠ 0 then w.begin_ c
 else if ((w.begin_ c).1.write c w.its w.bl).2 ≠ 0 then (w.begin_ c).1.write c w.its w.bl
 else ({ ((w.begin_ c).1.write c w.its w.bl).1 with its := [], bl := [] }, 0)
def turn (c : Cf) (w : Wr) (s : Int) : Wr × Int :=
 if (w.write c [⟨7, 0, 0, s⟩] []).2 ≠ 0 then w.write c [⟨7, 0, 0, s⟩] []
 else begin_ c { (w.write c [⟨7, 0, 0, s⟩] []).1 with t := (w.write c [⟨7, 0, 0, s⟩] []).1.t.shut w.p.s, p := { (w.write c [⟨7, 0, 0, s⟩] []).1.p with s := s, o := 0 } }
/-- room for one item more, with so many blocks -/
def room (c : Cf) (w : Wr) (n : Nat) (spare : Bool) : Wr × Int :=
  if fits c w.p.o (w.its.length + 1) (w.bl.length + n) = true then (w, 0)
  else if fits c (if w.its = [] then w.p.o else behind w.p.o w.bl.length) 1 n = true then w.emit c
  else if w.t.takes spare = true ∧ Tb.idx w.t.us ≠ -1 then
    (if (emit c { w with t := w.t.grab (Tb.idx w.t.us) }).2 ≠ 0 then emit c { w with t := w.t.grab (Tb.idx w.t.us) }
     else (emit c { w with t := w.t.grab (Tb.idx w.t.us) }).1.turn c (Tb.idx w.t.us))
  else (w, 6)
end Wr
def WB (D gb T : Nat) (p : Ps) (vi vb : Value) : List Value := [.pointer (some ⟨D, 0, none⟩), .pointer (some ⟨gb, 0, none⟩), .pointer (some ⟨T, 0, none⟩), .int .i64 p.s, .int .i64 p.o, .int .i64 p.l, .int .i64 p.p, .int .i64 p.m, vi, vb]
end Go.Kn
namespace Go.Kn
open Go Go.RowKit
theorem tb_has {t : Tb} {n : Nat} (h : t.Ok n) (s : Int) : t.has s = decide (0 ≤ s ∧ s < (n : Int)) := by unfold Tb.has; rw [h.u]
end Go.Kn
namespace Go.Proofs.YtgcfdjcpcclcjaaGreat
open Go Go.RowKit Go.Kn
theorem us_has_any (w : World) (p : TD) (s : Int) (hT : Kn.Own w p.T p.box) (hn : p.n ≤ 1000) : Calls Tryz.prog 139 #[.pointer (some ⟨p.T, 0, none⟩), .int .i64 s] w fun e w' => e = .returned (.bool (decide (0 ≤ s ∧ s < (p.n : Int)))) ∧ w = w' := by
 have c1 : w.cell? ⟨p.T, 1, none⟩ = some (.slice (some ⟨p.u, 0, none⟩) p.n p.n) := hT.cellv 1
 have lt := hT.lt
 clear hT
 by_cases h0 : 0 ≤ s
 ·by_cases h1 : s < (p.n : Int)
  ·rw [decide_eq_true ⟨h0, h1⟩]
   go_enter Tryz.func139, Tryz.ntmps139
   go_wp2
   go_ret
   exact ⟨rfl, rfl⟩
  ·rw [decide_eq_false (fun h => h1 h.2)]
   go_enter Tryz.func139, Tryz.ntmps139
   go_wp2
   go_ret
   exact ⟨rfl, rfl⟩
 ·rw [decide_eq_false (fun h => h0 h.1)]
  go_enter Tryz.func139, Tryz.ntmps139
  go_wp2
  go_ret
  exact ⟨rfl, rfl⟩
set_option maxRecDepth 100000 in
set_option maxHeartbeats 4000000 in
theorem us_grab_any (w0 w : World) (p : TD) (t : Tb) (s : Int) (L : List (Nat × List Value)) (G : List Gs) (F : List (World → Prop)) (hw : Wc w0 w (p.L t L) G F) (ht : t.Ok p.n) (hn : p.n ≤ 1000) :
  Calls Tryz.prog 112 #[.pointer (some ⟨p.T, 0, none⟩), .int .i64 s] w fun e w' => e = .returned (.bool (t.grabs s)) ∧ Wc w0 w' (p.L (t.grab s) L) G F := by
 have HW := Lib.hid hw
 have HO := Lib.hid ht
 clear hw ht
 have HT : Hid (Kn.Own w p.T p.box) := Lib.hid (HW.out.boxi 0 rfl)
 have c1 : w.cell? ⟨p.T, 1, none⟩ = some (.slice (some ⟨p.u, 0, none⟩) p.n p.n) := HT.out.cellv 1
 have lt := HT.out.lt
 by_cases hs : 0 ≤ s ∧ s < (p.n : Int)
 ·obtain ⟨s, rfl⟩ : ∃ k : Nat, s = k := ⟨s.toNat, by omega⟩
  have hsl : s < t.us.length := by rw [HO.out.u]; omega
  have hsv : s < t.live.length := by rw [HO.out.l]; omega
  have c0 := (us_cell (HW.out.boxi 1 rfl) hsl).1
  have hsn : (s : Int) < (p.n : Int) := hs.2
  have hd := decide_eq_true hs
  obtain ⟨st, hst⟩ : ∃ x, t.us[s].st = x := ⟨_, rfl⟩
  rw [hst] at c0
  have hgr : t.grabs (s : Int) = decide (st = 0) := by unfold Tb.grabs; rw [tb_has HO.out, hd, us_get hsl, hst, Bool.true_and]
  have HST := Lib.hid hst
  have HGR := Lib.hid hgr
  clear hst hgr hs
  go_enter Tryz.func112, Tryz.ntmps112
  go_wp2_with fail
  refine (us_has_any _ p s HT.out hn).mono ?_
  rintro e w2 ⟨rfl, rfl⟩
  rw [hd]
  by_cases h0 : st = 0
  ·subst h0
   have hgb : t.grab (s : Int) = ⟨t.us.set s ⟨1, t.us[s].sp⟩, t.live.set s 0⟩ := by unfold Tb.grab; rw [HGR.out, if_pos (by decide), us_get hsl, Int.toNat_natCast]
   have hu1 : (usV t.us).set (s * 2) (.int .i64 1) = usV (t.us.set s ⟨1, t.us[s].sp⟩) := usV_set t.us s 0 ⟨1, t.us[s].sp⟩ _ hsl (by decide) (by rw [List.getD_eq_getElem?_getD, List.getElem?_eq_getElem hsl]; rfl)
   have hv1 : (ivs t.live).set s (.int .i64 0) = ivs (t.live.set s 0) := by unfold ivs; rw [List.map_set]
   have HGB := Lib.hid hgb
   have HU1 := Lib.hid hu1
   have HV1 := Lib.hid hv1
   clear hgb hu1 hv1
   go_wp2_with fail
   clear c0
   have HY := Lib.hid HW.out.drew
   clear HW
   refine wp_region_held_drew (S := (fun w' => Kn.Own w' p.T [.pointer (some ⟨p.gb, 0, none⟩), .slice (some ⟨p.u, 0, none⟩) p.n p.n, .slice (some ⟨p.v, 0, none⟩) p.n p.n])) (by kernel_rfl) (HY.out.boxi 0 rfl) (fun hSw0 => ?_)
   generalize w.drew = wz at *
   refine Kn.takeS 0 ⟨some 20, _, _, _, _, _⟩ ?_
   refine Kn.takeS 1 ⟨some 21, _, _, _, _, _⟩ ?_
   refine Kn.takeS 2 ⟨some 22, _, _, _, _, _⟩ ?_
   refine Kn.takeS 3 ⟨some 23, _, _, _, _, _⟩ (v := (.slice (some ⟨p.u, 0, none⟩) p.n p.n)) (hy := fun w hSw => by
    have q0 := hSw.cellv 1
    go_simp) ?_
   refine Kn.takeS 4 ⟨some 24, _, _, _, _, _⟩ ?_
   refine Kn.takeS 5 ⟨some 25, _, _, _, _, _⟩ ?_
   refine Kn.takeS 6 ⟨some 26, _, _, _, _, _⟩ ?_
   refine Kn.takeS 7 ⟨some 27, _, _, _, _, _⟩ ?_
   refine Kn.takeS 8 ⟨some 28, _, _, _, _, _⟩ (v := (.slice (some ⟨p.v, 0, none⟩) p.n p.n)) (hy := fun w hSw => by
    have q0 := hSw.cellv 2
    go_simp) ?_
   refine Kn.takeS 9 ⟨some 29, _, _, _, _, _⟩ ?_
   refine Kn.takeS 10 ⟨some 30, _, _, _, _, _⟩ ?_
   refine Kn.takeS 11 ⟨some 31, _, _, _, _, _⟩ ?_
   refine Kn.takeR 12 ⟨none, _, _, _, _, _⟩ fun K hK => ?_
   have b := HY.out.boxi 1 rfl
   have c0 := (us_cell b hsl).1
   have z0 := b.frozen (s * 2)
   have l0 := b.lt
   clear b
   go_simp
   have HYa := Lib.hid (HY.out.put 1 rfl (s * 2) (.int .i64 1))
   clear HY c0 z0 l0
   refine hK.out _ _ (HYa.out.boxi 0 rfl) (fun hSn => ?_)
   clear hK K hSw0
   have hSw0 := hSn
   clear hSn
   refine Kn.takeS 13 ⟨some 32, _, _, _, _, _⟩ ?_
   refine Kn.takeR 14 ⟨none, _, _, _, _, _⟩ fun K hK => ?_
   have b := HYa.out.boxi 2 rfl
   have c0 := b.cell s (by simp [ivs]; omega)
   have z0 := b.frozen s
   have l0 := b.lt
   clear b
   go_simp
   have HYab := Lib.hid (HYa.out.put 2 rfl s (.int .i64 0))
   clear HYa c0 z0 l0
   refine hK.out _ _ (HYab.out.boxi 0 rfl) (fun hSn => ?_)
   clear hK K hSw0
   have hSw0 := hSn
   clear hSn
   refine wpAnyH_done (by kernel_rfl) ?_ _
   clear hSw0
   go_wp2
   go_ret
   have hf := HYab.out
   simp only [List.set_cons_zero, List.set_cons_succ, HU1.out, HV1.out] at hf
   rw [HGR.out, HGB.out]
   exact ⟨by simp, hf⟩
  ·have hgb : t.grab (s : Int) = t := by unfold Tb.grab; rw [HGR.out, if_neg (by simpa using h0)]
   have HGB := Lib.hid hgb
   clear hgb
   go_wp2
   go_ret
   rw [HGR.out, HGB.out]
   exact ⟨by simp [h0], HW.out⟩
 ·have hd := decide_eq_false hs
  have hgr : t.grabs s = false := by unfold Tb.grabs; rw [tb_has HO.out, hd, Bool.false_and]
  have hgb : t.grab s = t := by unfold Tb.grab; rw [hgr]; simp
  have HGR := Lib.hid hgr
  have HGB := Lib.hid hgb
  clear hgr hgb hs
  go_enter Tryz.func112, Tryz.ntmps112
  go_wp2_with fail
  refine (us_has_any _ p s HT.out hn).mono ?_
  rintro e w2 ⟨rfl, rfl⟩
  rw [hd]
  go_wp2
  go_ret
  rw [HGR.out, HGB.out]
  exact ⟨rfl, HW.out⟩
set_option maxHeartbeats 4000000 in
theorem us_seal_any (w0 w : World) (p : TD) (t : Tb) (s : Int) (L : List (Nat × List Value)) (G : List Gs) (F : List (World → Prop)) (hw : Wc w0 w (p.L t L) G F) (ht : t.Ok p.n) (hn : p.n ≤ 1000) :
  Calls Tryz.prog 114 #[.pointer (some ⟨p.T, 0, none⟩), .int .i64 s] w fun e w' => e = .returned (.tuple #[]) ∧ Wc w0 w' (p.L (t.shut s) L) G F := by
 have HW := Lib.hid hw
 have HO := Lib.hid ht
 clear hw ht
 have HT : Hid (Kn.Own w p.T p.box) := Lib.hid (HW.out.boxi 0 rfl)
 have c1 : w.cell? ⟨p.T, 1, none⟩ = some (.slice (some ⟨p.u, 0, none⟩) p.n p.n) := HT.out.cellv 1
 have lt := HT.out.lt
 by_cases hs : 0 ≤ s ∧ s < (p.n : Int)
 ·obtain ⟨s, rfl⟩ : ∃ k : Nat, s = k := ⟨s.toNat, by omega⟩
  have hsl : s < t.us.length := by rw [HO.out.u]; omega
  have c0 := (us_cell (HW.out.boxi 1 rfl) hsl).1
  have z0 := (HW.out.boxi 1 rfl).frozen (s * 2)
  have l0 := (HW.out.boxi 1 rfl).lt
  have hsn : (s : Int) < (p.n : Int) := hs.2
  have hd := decide_eq_true hs
  obtain ⟨st, hst⟩ : ∃ x, t.us[s].st = x := ⟨_, rfl⟩
  rw [hst] at c0
  have hgr : (t.has (s : Int) && decide ((t.use (s : Int)).st = 1)) = decide (st = 1) := by rw [tb_has HO.out, hd, us_get hsl, hst, Bool.true_and]
  have HGR := Lib.hid hgr
  clear hst hgr hs
  go_enter Tryz.func114, Tryz.ntmps114
  go_wp2_with fail
  refine (us_has_any _ p s HT.out hn).mono ?_
  rintro e w2 ⟨rfl, rfl⟩
  rw [hd]
  by_cases h0 : st = 1
  ·subst h0
   have hgb : t.shut (s : Int) = ⟨t.us.set s ⟨2, t.us[s].sp⟩, t.live⟩ := by unfold Tb.shut; rw [HGR.out, if_pos (by decide), us_get hsl, Int.toNat_natCast]
   have hu1 : (usV t.us).set (s * 2) (.int .i64 2) = usV (t.us.set s ⟨2, t.us[s].sp⟩) := usV_set t.us s 0 ⟨2, t.us[s].sp⟩ _ hsl (by decide) (by rw [List.getD_eq_getElem?_getD, List.getElem?_eq_getElem hsl]; rfl)
   have hf := HW.out.put 1 rfl (s * 2) (.int .i64 2)
   simp only [List.set_cons_zero, List.set_cons_succ, hu1] at hf
   have HF := Lib.hid hf
   have HGB := Lib.hid hgb
   clear hgb hu1 hf
   go_wp2
   refine bodyPost_end (results_none rfl _ _ _) rfl ⟨rfl, ?_⟩
   rw [HGB.out]
   exact HF.out
  ·have hgb : t.shut (s : Int) = t := by unfold Tb.shut; rw [HGR.out, if_neg (by simpa using h0)]
   have HGB := Lib.hid hgb
   clear hgb
   go_wp2
   refine bodyPost_end (results_none rfl _ _ _) rfl ⟨rfl, ?_⟩
   rw [HGB.out]
   exact HW.out
 ·have hd := decide_eq_false hs
  have hgb : t.shut s = t := by unfold Tb.shut; rw [tb_has HO.out, hd]; simp
  have HGB := Lib.hid hgb
  clear hgb hs
  go_enter Tryz.func114, Tryz.ntmps114
  go_wp2_with fail
  refine (us_has_any _ p s HT.out hn).mono ?_
  rintro e w2 ⟨rfl, rfl⟩
  rw [hd]
  go_wp2
  refine bodyPost_end (results_none rfl _ _ _) rfl ⟨rfl, ?_⟩
  rw [HGB.out]
  exact HW.out
end Go.Proofs.YtgcfdjcpcclcjaaGreat
namespace Go.Kn
open Go Go.RowKit
/-- a writer's box and the layout's, and what else stays as it was -/
structure WG (w0 : World) (W : Nat) (xs : List Value) (gb : Nat) (cf : Cf) (w : World) : Prop where
 both : Own w W xs ∧ GeoAt w gb cf.b cf.s cf.l
 o : Only [] w0 w
theorem WG.keep0 {w0 w w' : World} {W gb : Nat} {xs : List Value} {cf : Cf} (h : WG w0 W xs gb cf w) (hO : Only [] w w') : WG w0 W xs gb cf w' := ⟨⟨h.both.1.keep0 hO, h.both.2.keep0 hO⟩, h.o.trans' hO⟩
theorem WG.drew {w0 w : World} {W gb : Nat} {xs : List Value} {cf : Cf} (h : WG w0 W xs gb cf w) : WG w0 W xs gb cf w.drew := h.keep0 (Only.refl _ _).drew
end Go.Kn
namespace Go.Proofs.YtgcfdjcpcclcjaaGreat
open Go Go.RowKit Go.Kn
theorem wr_behind_any (o : Int) (n : Nat) (w : World) (ho : -1000000 ≤ o ∧ o ≤ 1000000) (hn : n ≤ 1000) : Calls Tryz.prog 167 #[.int .i64 o, .int .i64 (n : Int)] w fun e w' => e = .returned (.int .i64 (behind o n)) ∧ w = w' := by
 have hw1 := IntWalk.i64_in (o + 1) (by omega)
 have hw2 := IntWalk.i64_in (o + 1 + (n : Int)) (by omega)
 have hw3 := IntWalk.i64_in (2 + (n : Int)) (by omega)
 by_cases h1 : 1 > o
 ·have hb : behind o n = 2 + (n : Int) := by unfold behind; omega
  have HB := Lib.hid hb
  clear hb
  go_enter Tryz.func167, Tryz.ntmps167
  go_wp2
  go_ret
  exact ⟨by rw [HB.out]; rfl, rfl⟩
 ·have hb : behind o n = o + 1 + (n : Int) := by unfold behind; omega
  have HB := Lib.hid hb
  have h2 : ¬ 1 > o := h1
  clear hb
  go_enter Tryz.func167, Tryz.ntmps167
  go_wp2
  go_ret
  exact ⟨by rw [HB.out]; rfl, rfl⟩
set_option maxRecDepth 100000 in
theorem wr_fits_any (w : World) (W D gb T : Nat) (p : Ps) (vi vb : Value) (cf : Cf) (o : Int) (it bl : Nat) (hw : Kn.Own w W (WB D gb T p vi vb)) (hg : GeoAt w gb cf.b cf.s cf.l) (hc : cf.Ok) (ho : -1000000 ≤ o ∧ o ≤ 1000000) (hb : bl ≤ 1000) (hi : it ≤ 1000) :
  Calls Tryz.prog 166 #[.pointer (some ⟨W, 0, none⟩), .int .i64 o, .int .i64 (it : Int), .int .i64 (bl : Int)] w fun e w' => e = .returned (.bool (Wr.fits cf o it bl)) ∧ Only [] w w' := by
 have H0 := Lib.hid (⟨⟨hw, hg⟩, Only.refl _ _⟩ : WG w W (WB D gb T p vi vb) gb cf w)
 have lt := hw.lt
 have HC := Lib.hid hc
 clear hw hg hc
 by_cases h6 : it ≤ 6
 ·have hi6 : (it : Int) ≤ 6 := by omega
  go_enter Tryz.func166, Tryz.ntmps166
  go_wp2_with fail
  have HY := Lib.hid H0.out.drew
  clear H0
  refine wp_region_held_drew (S := (fun w' => Kn.Own w' W (WB D gb T p vi vb) ∧ GeoAt w' gb cf.b cf.s cf.l)) (by kernel_rfl) HY.out.both (fun hSw0 => ?_)
  generalize w.drew = wz at *
  refine Kn.takeS 0 ⟨some 9, _, _, _, _, _⟩ ?_
  refine Kn.takeS 1 ⟨some 10, _, _, _, _, _⟩ ?_
  refine Kn.takeS 2 ⟨some 11, _, _, _, _, _⟩ ?_
  refine Kn.takeS 3 ⟨some 12, _, _, _, _, _⟩ ?_
  refine Kn.takeS 4 ⟨some 13, _, _, _, _, _⟩ ?_
  refine Kn.takeS 6 ⟨some 15, _, _, _, _, _⟩ ?_
  refine Kn.takeS 7 ⟨some 16, _, _, _, _, _⟩ ?_
  refine Kn.takeS 8 ⟨some 17, _, _, _, _, _⟩ ?_
  refine Kn.takeS 9 ⟨some 18, _, _, _, _, _⟩ (v := (.pointer (some ⟨gb, 0, none⟩))) (hy := fun w hSw => by
   have q0 := hSw.1.cellv 1
   go_simp) ?_
  refine Kn.takeR 5 ⟨some 14, _, _, _, _, _⟩ fun K hK => ?_
  go_simp
  refine (wr_behind_any o bl _ (by omega) (by omega)).mono ?_
  rintro en wa ⟨rfl, rfl⟩
  refine hK.out _ _ hSw0 (fun hSn => ?_)
  clear hK K hSw0
  have hSw0 := hSn
  clear hSn
  refine Kn.takeR 10 ⟨some 19, _, _, _, _, _⟩ fun K hK => ?_
  go_simp
  refine (geom_config_any gb cf.b cf.s cf.l _ hSw0.2).mono ?_
  rintro en wb ⟨rfl, hO⟩
  have HYb := Lib.hid (WG.keep0 HY.out hO)
  clear hO HY
  refine hK.out _ _ HYb.out.both (fun hSn => ?_)
  clear hK K hSw0
  have hSw0 := hSn
  clear hSn
  refine Kn.takeS 11 ⟨some 20, _, _, _, _, _⟩ (v := (.int .i64 cf.l)) (hy := fun w hSw => by
   have q0 := field_cfg2 cf.b cf.s cf.l w
   go_simp) ?_
  refine Kn.takeS 12 ⟨some 21, _, _, _, _, _⟩ ?_
  refine Kn.takeS 13 ⟨some 22, _, _, _, _, _⟩ ?_
  refine Kn.takeS 14 ⟨some 8, _, _, _, _, _⟩ ?_
  refine wpAnyH_done (by kernel_rfl) ?_ _
  clear hSw0
  go_wp2
  go_ret
  exact ⟨by unfold Wr.fits; rw [decide_eq_true h6, Bool.true_and]; rfl, HYb.out.o⟩
 ·have hi6 : decide ((it : Int) ≤ 6) = false := decide_eq_false (by omega)
  go_enter Tryz.func166, Tryz.ntmps166
  go_wp2_with fail
  have HY := Lib.hid H0.out.drew
  clear H0
  refine wp_region_held_drew (S := (fun w' => Kn.Own w' W (WB D gb T p vi vb) ∧ GeoAt w' gb cf.b cf.s cf.l)) (by kernel_rfl) HY.out.both (fun hSw0 => ?_)
  generalize w.drew = wz at *
  refine Kn.takeS 0 ⟨some 9, _, _, _, _, _⟩ ?_
  refine Kn.takeS 1 ⟨some 10, _, _, _, _, _⟩ ?_
  refine Kn.takeS 2 ⟨some 11, _, _, _, _, _⟩ ?_
  refine Kn.takeN 3 ⟨some 12, _, _, _, _, _⟩ ?_
  refine Kn.takeN 4 ⟨some 13, _, _, _, _, _⟩ ?_
  refine Kn.takeN 5 ⟨some 14, _, _, _, _, _⟩ ?_
  refine Kn.takeN 6 ⟨some 15, _, _, _, _, _⟩ ?_
  refine Kn.takeN 7 ⟨some 16, _, _, _, _, _⟩ ?_
  refine Kn.takeN 8 ⟨some 17, _, _, _, _, _⟩ ?_
  refine Kn.takeN 9 ⟨some 18, _, _, _, _, _⟩ ?_
  refine Kn.takeN 10 ⟨some 19, _, _, _, _, _⟩ ?_
  refine Kn.takeN 11 ⟨some 20, _, _, _, _, _⟩ ?_
  refine Kn.takeN 12 ⟨some 21, _, _, _, _, _⟩ ?_
  refine Kn.takeS 13 ⟨some 22, _, _, _, _, _⟩ ?_
  refine Kn.takeS 14 ⟨some 8, _, _, _, _, _⟩ ?_
  refine wpAnyH_done (by kernel_rfl) ?_ _
  clear hSw0
  go_wp2
  go_ret
  exact ⟨by unfold Wr.fits; rw [decide_eq_false h6, Bool.false_and]; rfl, HY.out.o⟩
set_option maxRecDepth 100000 in
theorem wr_first_any (w : World) (W D gb T : Nat) (p : Ps) (vi vb : Value) (cf : Cf) (hw : Kn.Own w W (WB D gb T p vi vb)) (hg : GeoAt w gb cf.b cf.s cf.l) (hc : cf.Ok) (ho : -1000000 ≤ p.o ∧ p.o ≤ 1000000) (ha : -1 ≤ cf.at_ p.s ∧ cf.at_ p.s ≤ 100000) :
  Calls Tryz.prog 121 #[.pointer (some ⟨W, 0, none⟩)] w fun e w' => e = .returned (.int .i64 (cf.at_ p.s + behind p.o 0)) ∧ Only [] w w' := by
 have H0 := Lib.hid (⟨⟨hw, hg⟩, Only.refl _ _⟩ : WG w W (WB D gb T p vi vb) gb cf w)
 have lt := hw.lt
 have HC := Lib.hid hc
 have hb : behind p.o 0 = max p.o 1 + 1 + ((0 : Nat) : Int) := rfl
 have hw2 := IntWalk.i64_in (cf.at_ p.s + behind p.o 0) (by omega)
 clear hw hg hc hb
 go_enter Tryz.func121, Tryz.ntmps121
 go_wp2_with fail
 have HY := Lib.hid H0.out.drew
 clear H0
 refine wp_region_held_drew (S := (fun w' => Kn.Own w' W (WB D gb T p vi vb) ∧ GeoAt w' gb cf.b cf.s cf.l)) (by kernel_rfl) HY.out.both (fun hSw0 => ?_)
 generalize w.drew = wz at *
 refine Kn.takeS 0 ⟨some 3, _, _, _, _, _⟩ ?_
 refine Kn.takeS 1 ⟨some 4, _, _, _, _, _⟩ ?_
 refine Kn.takeS 2 ⟨some 5, _, _, _, _, _⟩ ?_
 refine Kn.takeS 3 ⟨some 6, _, _, _, _, _⟩ (v := (.pointer (some ⟨gb, 0, none⟩))) (hy := fun w hSw => by
  have q0 := hSw.1.cellv 1
  go_simp) ?_
 refine Kn.takeS 4 ⟨some 7, _, _, _, _, _⟩ ?_
 refine Kn.takeS 5 ⟨some 8, _, _, _, _, _⟩ ?_
 refine Kn.takeS 6 ⟨some 9, _, _, _, _, _⟩ ?_
 refine Kn.takeS 7 ⟨some 10, _, _, _, _, _⟩ ?_
 refine Kn.takeS 8 ⟨some 11, _, _, _, _, _⟩ (v := (.int .i64 p.s)) (hy := fun w hSw => by
  have q0 := hSw.1.cellv 3
  go_simp) ?_
 refine Kn.takeS 10 ⟨some 13, _, _, _, _, _⟩ ?_
 refine Kn.takeS 11 ⟨some 14, _, _, _, _, _⟩ ?_
 refine Kn.takeS 12 ⟨some 15, _, _, _, _, _⟩ ?_
 refine Kn.takeS 13 ⟨some 16, _, _, _, _, _⟩ ?_
 refine Kn.takeS 14 ⟨some 17, _, _, _, _, _⟩ (v := (.int .i64 p.o)) (hy := fun w hSw => by
  have q0 := hSw.1.cellv 4
  go_simp) ?_
 refine Kn.takeR 9 ⟨some 12, _, _, _, _, _⟩ fun K hK => ?_
 go_simp
 refine (geom_seg_any gb cf p.s _ hSw0.2 HC.out).mono ?_
 rintro en wb ⟨rfl, hO⟩
 have HYb := Lib.hid (WG.keep0 HY.out hO)
 clear hO HY
 refine hK.out _ _ HYb.out.both (fun hSn => ?_)
 clear hK K hSw0
 have hSw0 := hSn
 clear hSn
 refine Kn.takeR 15 ⟨some 18, _, _, _, _, _⟩ fun K hK => ?_
 go_simp
 refine (wr_behind_any p.o 0 _ (by omega) (by omega)).mono ?_
 rintro en wa ⟨rfl, rfl⟩
 refine hK.out _ _ hSw0 (fun hSn => ?_)
 clear hK K hSw0
 have hSw0 := hSn
 clear hSn
 refine Kn.takeS 16 ⟨some 19, _, _, _, _, _⟩ ?_
 refine Kn.takeS 17 ⟨some 2, _, _, _, _, _⟩ ?_
 refine wpAnyH_done (by kernel_rfl) ?_ _
 clear hSw0
 go_wp2
 go_ret
 exact ⟨rfl, HYb.out.o⟩
set_option maxRecDepth 100000 in
theorem wr_pos_any (w : World) (W D gb T : Nat) (p : Ps) (vi vb : Value) (hw : Kn.Own w W (WB D gb T p vi vb)) :
  Calls Tryz.prog 72 #[.pointer (some ⟨W, 0, none⟩)] w fun e w' => e = .returned (.agg #[.int .i64 p.s, .int .i64 p.o, .int .i64 p.l, .int .i64 p.p, .int .i64 p.m]) ∧ Only [] w w' := by
 have hres : Tryz.f72.results = #[.cell 2 32] := by kernel_rfl
 have HRES := Lib.hid hres
 have c0 := hw.cellv 3
 have c1 := hw.cellv 4
 have c2 := hw.cellv 5
 have c3 := hw.cellv 6
 have c4 := hw.cellv 7
 have hlt := hw.lt
 clear hw hres
 go_enter Tryz.func72, Tryz.ntmps72
 go_wp2
 (try simp only [Exit.inBlock, Exit.then])
 refine bodyPost_ret (v := .agg #[.int .i64 p.s, .int .i64 p.o, .int .i64 p.l, .int .i64 p.p, .int .i64 p.m]) ?_ rfl ⟨rfl, ?_⟩
 ·simp only [results, HRES.out]
  go_simp
 ·exact (Only.refl _ _).alloc _
theorem wr_waiting_any (w : World) (W D gb T : Nat) (p : Ps) (A : Option Addr) (n c : Nat) (vb : Value) (hw : Kn.Own w W (WB D gb T p (.slice A n c) vb)) :
  Calls Tryz.prog 68 #[.pointer (some ⟨W, 0, none⟩)] w fun e w' => e = .returned (.int .i64 (n : Int)) ∧ w = w' := by
 have c0 := hw.cellv 8
 clear hw
 go_enter Tryz.func68, Tryz.ntmps68
 go_wp2
 go_ret
 exact ⟨rfl, rfl⟩
end Go.Proofs.YtgcfdjcpcclcjaaGreat
namespace Go.Kn
open Go Go.RowKit
theorem Its.one {w : World} {g : Nat} {k b c v : Int} (h : Own w g [.int .i64 k, .int .i64 b, .int .i64 c, .int .i64 v]) : Its w (some ⟨g, 0, none⟩) 1 1 [⟨k, b, c, v⟩] :=
 ⟨rfl, Nat.le_refl _, by decide, fun _ => ⟨g, 0, rfl, fun i hi => by
  obtain rfl : i = 0 := by simp at hi; omega
  exact ⟨h.cell 0 (by simp), h.cell 1 (by simp), h.cell 2 (by simp), h.cell 3 (by simp)⟩⟩⟩
end Go.Kn
namespace Go.Proofs.YtgcfdjcpcclcjaaGreat
open Go Go.RowKit Go.Kn
theorem Duo.boxi {w0 w : World} {p : PD} {r : RD} {d e : Dk} {c : Fr3} (h : Duo w0 w p r d e c) (i : Nat) {x : Nat × List Value} (hi : c.L[i]? = some x) : Kn.Own w x.1 x.2 := h.box (List.mem_of_getElem? hi)
end Go.Proofs.YtgcfdjcpcclcjaaGreat
