/- FrameK, StpP, TurnW, BrkQ, MntP, ScpP, ChnQ, RingQ, KitF, ChnA, ChnB, ChnC, ChnI, ChnD, LaidA, RingA: joined by pack.py, without what the claim does not use. -/
import Derived.Test.YtgcfdjcpcclcjaaGreatChainPlaysG
set_option linter.unusedVariables false
set_option linter.unusedSimpArgs false
set_option maxHeartbeats 16000000
set_option maxRecDepth 100000
namespace Go.Kn
open Go Go.RowKit
/-- the numbers of a record of the kit fit their kinds -/
structure WfK (e : KR) : Prop where
 ks : ∀ z ∈ e.kinds, (Lit.int .i64 z).wf = true
 f : (Lit.int .i64 e.fill).wf = true
 s : (Lit.int .i64 e.skew).wf = true
 t : (Lit.int .i64 e.twist).wf = true
 u : (Lit.int .i64 e.up).wf = true
/-- a slice of slices of numbers -/
def Inss (w : World) (A : Option Addr) (n c : Nat) (l : List (List Int)) : Prop := ∃ sl : List (Option Addr × Nat × Nat), Row1 w A n c (sl.map slv) ∧ sl.length = l.length ∧ ∀ i (h1 : i < sl.length) (h2 : i < l.length), Ins w sl[i].1 sl[i].2.1 sl[i].2.2 l[i]
theorem Inss.nil (w : World) : Inss w none 0 0 [] := ⟨[], Row1.nil w, rfl, fun i h1 => by simp at h1⟩
theorem Inss.len {w : World} {A : Option Addr} {n c : Nat} {l : List (List Int)} (h : Inss w A n c l) : l.length = n := by
 obtain ⟨sl, h1, h2, _⟩ := h
 have := h1.len
 simp at this
 omega
theorem Krs.nil (w : World) : Krs w none 0 0 [] [] := ⟨rfl, rfl, Nat.le_refl _, Nat.zero_le _, fun h => absurd h (by omega), fun i h => by simp at h⟩
end Go.Kn
namespace Go.Proofs.YtgcfdjcpcclcjaaGreat
open Go.ChangeShapes Go.WideShapes Go.ChangeAt Go.RowKit Go.Kn Go.Deep
variable {H : Type} {enc : TypeId × Value → H}
theorem open_krs {w : World} {base : Nat} {held : Bool} {fuel : Nat} {a : Option Addr} {len cap : Nat} {x : DataW H × List MemPlace}
  (h : DataW.trod enc Tryz.prog w base (fun _ => true) held fuel 39 [.slice a len cap] = some x) : ∃ l ss, Krs w a len cap l ss ∧ ∀ e ∈ l, WfK e := by
 rcases open_slice_fields Tryz.underlying39 Tryz.underlying38 (by kernel_rfl) (by kernel_rfl) h with ⟨hcs, _⟩ | ⟨b, l, c, m, hcs, hl, hm, hmm, hf⟩
 ·simp at hcs
  obtain ⟨rfl, rfl, rfl⟩ := hcs
  exact ⟨[], [], Krs.nil _, by simp⟩
 simp at hcs
 obtain ⟨rfl, rfl, rfl⟩ := hcs
 have hx : ∀ i, i < len → ∃ p : KR × (Option Addr × Nat × Nat), (w.cell? (b.add (i * 5)) = some (slv p.2) ∧ w.cell? (b.add (i * 5 + 1)) = some (.int .i64 p.1.fill) ∧ w.cell? (b.add (i * 5 + 2)) = some (.int .i64 p.1.skew) ∧ w.cell? (b.add (i * 5 + 3)) = some (.int .i64 p.1.twist) ∧ w.cell? (b.add (i * 5 + 4)) = some (.int .i64 p.1.up)) ∧
   Ins w p.2.1 p.2.2.1 p.2.2.2 p.1.kinds ∧ WfK p.1 := by
  intro i hi
  obtain ⟨ys, n, hy, hj⟩ := hf i (by omega)
  obtain ⟨v0, y0, h0, t0⟩ := hj 0 _ rfl
  obtain ⟨v1, y1, h1, t1⟩ := hj 1 _ rfl
  obtain ⟨v2, y2, h2, t2⟩ := hj 2 _ rfl
  obtain ⟨v3, y3, h3, t3⟩ := hj 3 _ rfl
  obtain ⟨v4, y4, h4, t4⟩ := hj 4 _ rfl
  obtain ⟨B, m, d, zs, rfl, w4⟩ := open_row Tryz.underlying34 Tryz.underlying3 (by kernel_rfl) t0
  obtain ⟨z1, rfl, w1⟩ := open_int1 (k := .i64) (by kernel_rfl) t1
  obtain ⟨z2, rfl, w2⟩ := open_int1 (k := .i64) (by kernel_rfl) t2
  obtain ⟨z3, rfl, w3⟩ := open_int1 (k := .i64) (by kernel_rfl) t3
  obtain ⟨z4, rfl, w5⟩ := open_int1 (k := .i64) (by kernel_rfl) t4
  exact ⟨(⟨zs.take m, z1, z2, z3, z4⟩, (B, m, d)), ⟨h0, h1, h2, h3, h4⟩, w4.ins, w4.wf, w1, w2, w3, w5⟩
 obtain ⟨L, hL, hp⟩ := list_of hx
 refine ⟨L.map (·.1), L.map (·.2), ⟨by simpa using hL, by simpa using hL, hl, hm, fun hn => ?_, fun i h1 h2 => ?_⟩, fun e he => ?_⟩
 ·have h00 := (hp 0 (by omega)).1.1
  have hz : ∃ u, w.cell? (b.add 0) = some u := ⟨_, by simpa using h00⟩
  have hb := add_none (i := 0) (by simpa using h00) hz
  have hb' : b = ⟨b.block, b.off, none⟩ := by
   have := hb
   unfold Addr.add at this
   simpa using this
  refine ⟨b.block, b.off, by rw [← hb'], fun i hi hi2 => ?_⟩
  obtain ⟨⟨p0, p1, p2, p3, p4⟩, _⟩ := hp i (by simpa using hi)
  rw [add_none p0 hz] at p0
  rw [add_none p1 hz] at p1
  rw [add_none p2 hz] at p2
  rw [add_none p3 hz] at p3
  rw [add_none p4 hz] at p4
  simp only [List.getElem_map]
  exact ⟨p0, p1, p2, p3, p4⟩
 ·simpa using (hp i (by simpa using h1)).2.1
 obtain ⟨p, hpm, rfl⟩ := List.mem_map.1 he
 obtain ⟨i, hi, rfl⟩ := List.getElem_of_mem hpm
 exact (hp i hi).2.2
end Go.Proofs.YtgcfdjcpcclcjaaGreat
namespace Go.Kn
open Go Go.RowKit
def InRows (sl : List (Option Addr × Nat × Nat)) (l : List (List Int)) (W : World) : Prop := ∀ (i : Nat) (s : Option Addr × Nat × Nat) (z : List Int), sl[i]? = some s → l[i]? = some z → Ins W s.1 s.2.1 s.2.2 z
/-- a slice of slices, as two facts -/
theorem Inss.old {w : World} {A : Option Addr} {n c : Nat} {l : List (List Int)} (h : Inss w A n c l) : ∃ sl, sl.length = l.length ∧ Wc w w [] [] [InRows sl l, fun W => Row1 W A n c (sl.map slv)] := by
 obtain ⟨sl, hr, hl, hi⟩ := h
 have h1 := (Wc.start w).old (f := fun W => Row1 W A n c (sl.map slv)) (Row1.fc hr (by simp))
 refine ⟨sl, hl, h1.old (f := InRows sl l) (fun W hW i s z hs hz => ?_)⟩
 obtain ⟨hi1, rfl⟩ := List.getElem?_eq_some_iff.1 hs
 obtain ⟨hi2, rfl⟩ := List.getElem?_eq_some_iff.1 hz
 exact Row1.fc (hi i hi1 hi2) (M := fun _ => False) (by simp) W hW
theorem Kb.hd {w w' : World} {D : Nat} {x : Option (List Deferred)} (hk : Kb w.heap.size w w') (h : w.heap[D]? = some (.deferred x)) : w'.heap[D]? = some (.deferred x) := hk.keep D _ (lt_of_obj h) h rfl
theorem Laid.cut {d : Dk} {c : Cf} {q' : Ps} {l2 : List (Ps × Rc)} : ∀ {l1 : List (Ps × Rc)} {q : Ps}, Laid d c q (l1 ++ l2) q' → ∃ qm, Laid d c q l1 qm ∧ Laid d c qm l2 q'
 | [], q, h => ⟨q, .nil _, h⟩
 | x :: l1, q, h => by
  cases h with
  | cons h1 h2 h3 =>
   obtain ⟨qm, g1, g2⟩ := Laid.cut h3
   exact ⟨qm, .cons h1 h2 g1, g2⟩
theorem Laid.last {d : Dk} {c : Cf} {q' x : Ps} {r : Rc} : ∀ {l : List (Ps × Rc)} {q : Ps}, Laid d c q (l ++ [(x, r)]) q' → follow d c x = (some (r, q'), 0)
 | [], q, h => by
  cases h with
  | cons h1 h2 h3 =>
   cases h3
   exact h1
 | y :: l, q, h => by
  cases h with
  | cons h1 h2 h3 => exact Laid.last h3
/-- stopped behind some records it goes on there -/
theorem Lg.stop {d : Dk} {c : Cf} {q0 q e x : Ps} {r : Rc} {l pre : List (Ps × Rc)} (h : Lg d c q0 l q) (hc : c.Ok) (hp : pre ++ [(x, r)] <+: l) (hf : follow d c x = (some (r, e), 0)) :
  (e.s = q0.s ∧ 1 ≤ e.o ∧ e.o ≤ c.l - 1) ∧ scanG d c 65 e = (l.drop (pre.length + 1), q, 0) := by
 obtain ⟨l2, rfl⟩ := hp
 obtain ⟨qm, g1, g2⟩ := h.laid.cut
 have g3 := g1.last
 rw [hf] at g3
 injection g3 with g3 _
 injection g3 with g3
 injection g3 with _ g3
 subst g3
 have p1 := g1.place
 have p2 := g2.place
 have ho := h.o0
 have ho1 := h.o1
 have hl := hc.2.2
 refine ⟨⟨p1.1, by omega, by omega⟩, ?_⟩
 have hd : (pre ++ [(x, r)] ++ l2).drop (pre.length + 1) = l2 := List.drop_left' (by simp)
 rw [hd]
 exact g2.told (by omega) (by omega) (h.none_ hc)
end Go.Kn
namespace Go.Proofs.YtgcfdjcpcclcjaaGreat
open Go Go.RowKit Go.Kn
theorem Duo.impF {w0 w : World} {p : PD} {r : RD} {d e : Dk} {L : List (Nat × List Value)} {G : List Gs} {F : List (World → Prop)} (h : Duo w0 w p r d e ⟨L, G, F⟩) {F' : List (World → Prop)} (hF : ∀ f ∈ F', ∀ W, (∀ g ∈ F, g W) → f W) : Duo w0 w p r d e ⟨L, G, F'⟩ := by
 obtain ⟨L0, G0, F0, hw, back⟩ := h.fr
 refine back w ⟨L, G, F'⟩ ⟨hw.only, hw.own, hw.lo, hw.nd, hw.g1, hw.g2, hw.g3, fun f hf w' h' => ?_⟩
 rcases List.mem_append.1 hf with hf | hf
 ·exact hF f hf w' (fun g hg => hw.fx g (List.mem_append_left _ hg) w' h')
 exact hw.fx f (List.mem_append_right _ hf) w' h'
end Go.Proofs.YtgcfdjcpcclcjaaGreat
namespace Go.Kn
open Go Go.RowKit
theorem bits_xor_u8_nat (a b : Nat) (ha : a < 256) (hb : b < 256) : bits .xor .u8 (a : Int) (b : Int) = ((a ^^^ b : Nat) : Int) := by
 have hx : a ^^^ b < 2 ^ 8 := Nat.xor_lt_two_pow (by omega) (by omega)
 have h1 : (BitVec.ofInt 8 (a : Int)).toNat = a := by
  rw [BitVec.ofInt_natCast, BitVec.toNat_ofNat]; exact Nat.mod_eq_of_lt (by omega)
 have h2 : (BitVec.ofInt 8 (b : Int)).toNat = b := by
  rw [BitVec.ofInt_natCast, BitVec.toNat_ofNat]; exact Nat.mod_eq_of_lt (by omega)
 show IntKind.u8.wrap ((BitVec.ofInt 8 (a : Int) ^^^ BitVec.ofInt 8 (b : Int)).toNat : Int) = _
 rw [BitVec.toNat_xor, h1, h2]
 simp [IntKind.wrap, IntKind.signed, IntKind.bits]
 omega
theorem flip_byte (c : UInt8) (k : Nat) (hk : k < 8) : bits .xor .u8 (c.toNat : Int) (2 ^ k) = ((UInt8.ofNat (c.toNat ^^^ 2 ^ k)).toNat : Int) := by
 have h := bits_xor_u8_nat c.toNat (2 ^ k) c.toNat_lt (Nat.pow_lt_pow_right (by omega) hk)
 rw [UInt8.toNat_ofNat', Nat.mod_eq_of_lt (xor_pow_lt c k hk), ← h]
 simp
end Go.Kn
namespace Go.Kn
open Go Go.RowKit
/-- a gathered slice that is written no more: a fact -/
theorem Wc.gout {w0 w : World} {L : List (Nat × List Value)} {G : List Gs} {F : List (World → Prop)} {e n c : Nat} {A : Option Addr} {xs : List Value} (h : Wc w0 w L (⟨e, 1, .slice A n c, n, xs⟩ :: G) F) : Wc w0 w L G ((fun W => Row1 W A n c xs) :: F) := by
 have hr := (Row1.of_owns (h.gi 0 rfl)).1
 refine h.gdrop.addF _ (Row1.fc hr fun hn a ha hm => ?_)
 subst ha
 have hob : (Value.slice (some a) n c).ownBlock = some a.block := rfl
 rcases hm with hm | ⟨y, hy, hk⟩
 ·obtain ⟨x, hx, e1⟩ := List.mem_map.1 hm
  exact h.g3 x hx _ List.mem_cons_self (by rw [hob, e1])
 exact (List.pairwise_cons.1 h.g2).1 y hy _ hob hk
theorem ownsRow_zero {w : World} {b e sz n c g o : Nat} {p : Option Nat} {xs : List Value} (h : w.ownsRow b e sz (.slice (some ⟨g, o, p⟩) n c) n xs) : o = 0 ∧ p = none := by
 rcases h.2 with ⟨hv, _⟩ | ⟨g', cap, cur, hv, _⟩
 ·cases hv
 injection hv with e1
 injection e1 with e1
 injection e1 with e1 e2 e3
 exact ⟨e2, e3⟩
/-- where the records of a log stand -/
theorem Laid.first {d : Dk} {c : Cf} {q q' : Ps} {l : List (Ps × Rc)} (h : Laid d c q l q') : (l.map (·.1.o) ++ [q'.o])[0]? = some q.o := by
 cases h with
 | nil _ => rfl
 | cons h1 h2 h3 => rfl
end Go.Kn
namespace Go.Proofs.YtgcfdjcpcclcjaaGreat
open Go Go.RowKit Go.Kn
section
variable {w0 w w' : World} {p : PD} {r : RD} {d e : Dk} {L : List (Nat × List Value)} {G : List Gs} {F : List (World → Prop)}
theorem Duo.gnew (h : Duo w0 w p r d e ⟨L, G, F⟩) (t sz : Nat) : Duo w0 w p r d e ⟨L, ⟨t, sz, .slice none 0 0, 0, []⟩ :: G, F⟩ := by
 obtain ⟨L0, G0, F0, hw, back⟩ := h.fr
 exact back w ⟨L, _ :: G, F⟩ (hw.gnew t sz)
theorem Duo.gapp (h : Duo w0 w p r d e ⟨L, G, F⟩) (i : Nat) {x : Gs} (hi : G[i]? = some x) {v' : Value} {n' : Nat} {ys : List Value} (ho : w'.ownsRow w0.heap.size x.e x.sz v' n' ys) (hg : w.grownBy w' x.v.ownBlock) (hat : v'.ownBlock = x.v.ownBlock ∨ v'.ownBlock = some w.heap.size) : Duo w0 w' p r d e ⟨L, G.set i ⟨x.e, x.sz, v', n', ys⟩, F⟩ := by
 obtain ⟨L0, G0, F0, hw, back⟩ := h.fr
 have hlt : i < G.length := (List.getElem?_eq_some_iff.1 hi).1
 have hw2 := hw.gapp i (x := x) (by show (G ++ G0)[i]? = _; rw [List.getElem?_append_left hlt]; exact hi) ho hg hat
 refine back _ ⟨L, G.set i ⟨x.e, x.sz, v', n', ys⟩, F⟩ ?_
 show Wc w0 w' (L ++ L0) (G.set i ⟨x.e, x.sz, v', n', ys⟩ ++ G0) (F ++ F0)
 rw [← List.set_append_left _ _ hlt]
 exact hw2
theorem Duo.gset (h : Duo w0 w p r d e ⟨L, G, F⟩) (i : Nat) {x : Gs} (hi : G[i]? = some x) {g : Nat} (hg : x.v.ownBlock = some g) (o : Nat) (u : Value) : Duo w0 (w.setCell ⟨g, o, none⟩ u) p r d e ⟨L, G.set i ⟨x.e, x.sz, x.v, x.n, x.xs.set o u⟩, F⟩ := by
 obtain ⟨L0, G0, F0, hw, back⟩ := h.fr
 have hlt : i < G.length := (List.getElem?_eq_some_iff.1 hi).1
 have hw2 := hw.gset i (x := x) (by show (G ++ G0)[i]? = _; rw [List.getElem?_append_left hlt]; exact hi) hg o u
 refine back _ ⟨L, G.set i ⟨x.e, x.sz, x.v, x.n, x.xs.set o u⟩, F⟩ ?_
 show Wc w0 _ (L ++ L0) (G.set i ⟨x.e, x.sz, x.v, x.n, x.xs.set o u⟩ ++ G0) (F ++ F0)
 rw [← List.set_append_left _ _ hlt]
 exact hw2
theorem Duo.gadd (h : Duo w0 w p r d e ⟨L, G, F⟩) (hO : Only [] w w') {t sz n : Nat} {v : Value} {xs : List Value} (ho : w'.ownsRow w.heap.size t sz v n xs) : Duo w0 w' p r d e ⟨L, ⟨t, sz, v, n, xs⟩ :: G, F⟩ := by
 obtain ⟨L0, G0, F0, hw, back⟩ := h.fr
 exact back w' ⟨L, _ :: G, F⟩ (hw.gadd hO ho)
theorem Duo.gdrop {x : Gs} (h : Duo w0 w p r d e ⟨L, x :: G, F⟩) : Duo w0 w p r d e ⟨L, G, F⟩ := by
 obtain ⟨L0, G0, F0, hw, back⟩ := h.fr
 exact back w ⟨L, G, F⟩ hw.gdrop
theorem Duo.gout {t n c : Nat} {A : Option Addr} {xs : List Value} (h : Duo w0 w p r d e ⟨L, ⟨t, 1, .slice A n c, n, xs⟩ :: G, F⟩) : Duo w0 w p r d e ⟨L, G, (fun W => Row1 W A n c xs) :: F⟩ := by
 obtain ⟨L0, G0, F0, hw, back⟩ := h.fr
 exact back w ⟨L, G, _ :: F⟩ hw.gout
theorem Duo.gown {t sz n g c : Nat} {xs : List Value} (h : Duo w0 w p r d e ⟨L, ⟨t, sz, .slice (some ⟨g, 0, none⟩) n c, n, xs⟩ :: G, F⟩) : Kn.Own w g xs := by
 obtain ⟨L0, G0, F0, hw, back⟩ := h.fr
 exact (Wc.gbox hw).boxi 0 rfl
theorem Duo.gform (h : Duo w0 w p r d e ⟨L, G, F⟩) (i : Nat) {t sz n : Nat} {v : Value} {xs : List Value} (hi : G[i]? = some ⟨t, sz, v, n, xs⟩) : ∃ A c, v = .slice A n c := by
 obtain ⟨L0, G0, F0, hw, back⟩ := h.fr
 have hlt : i < G.length := (List.getElem?_eq_some_iff.1 hi).1
 exact hw.gform i (by show (G ++ G0)[i]? = _; rw [List.getElem?_append_left hlt]; exact hi)
theorem Duo.gi (h : Duo w0 w p r d e ⟨L, G, F⟩) (i : Nat) {x : Gs} (hi : G[i]? = some x) : w.ownsRow w0.heap.size x.e x.sz x.v x.n x.xs := h.row (List.mem_of_getElem? hi)
/-- the cells of a gathered row of single cells -/
theorem Duo.grow (h : Duo w0 w p r d e ⟨L, G, F⟩) (i : Nat) {t n c : Nat} {A : Option Addr} {xs : List Value} (hi : G[i]? = some ⟨t, 1, .slice A n c, n, xs⟩) : Row1 w A n c xs := (Row1.of_owns (h.gi i hi)).1
theorem duo_fault {c : Fr3} (h : Duo w0 w p r d e c) (a : Int) (on : Bool) :
  Calls Tryz.prog 34 #[.pointer (some ⟨p.D, 0, none⟩), .int .i64 a, .bool on] w fun en w' => en = .returned (.int .i64 (d.fault a on).2) ∧ Duo w0 w' p r (d.fault a on).1 e c := by
 obtain ⟨c1, hF, hP, back⟩ := h.ofP
 refine (dk_fault_any w0 w p d c1 a on hP).mono ?_
 rintro en w1 ⟨rfl, h1⟩
 exact ⟨rfl, back _ _ h1⟩
theorem duo_rfault {c : Fr3} (h : Duo w0 w p r d e c) (a : Int) (on : Bool) :
  Calls Tryz.prog 35 #[.pointer (some ⟨r.M, 0, none⟩), .int .i64 a, .bool on] w fun en w' => en = .returned (.int .i64 (e.fault a on).2) ∧ Duo w0 w' p r d (e.fault a on).1 c := by
 obtain ⟨c1, hF, hP, back⟩ := h.ofR
 refine (rk_fault_any w0 w r e c1 a on hP).mono ?_
 rintro en w1 ⟨rfl, h1⟩
 exact ⟨rfl, back _ _ h1⟩
theorem duo_rread_own (h : Duo w0 w p r d e ⟨L, G, F⟩) (hh : e.held.length ≤ 1000000) (a : Int) :
  Calls Tryz.prog 33 #[.pointer (some ⟨r.M, 0, none⟩), .int .i64 a] w fun en w' => ∃ A n c, en = .returned (.tuple #[.slice A n c, .int .i64 (e.err a)]) ∧ Duo w0 w' p r d e ⟨L, ⟨5, 1, .slice A n c, n, bvs (e.read a)⟩ :: G, F⟩ ∧ Only [] w w' := by
 obtain ⟨c1, hF, hP, back⟩ := h.ofR
 refine (rk_read_own w0 w r e c1 a hP hh).mono ?_
 rintro en w1 ⟨v, n, rfl, ho, hO⟩
 obtain ⟨L0, G0, F0, hw, back2⟩ := h.fr
 have hw2 := hw.gadd hO ho
 obtain ⟨A, c, rfl⟩ := hw2.gform 0 rfl
 exact ⟨A, n, c, rfl, back2 w1 ⟨L, _ :: G, F⟩ hw2, hO⟩
end
end Go.Proofs.YtgcfdjcpcclcjaaGreat
namespace Go.Kn
open Go Go.RowKit
/-- a record of a lower Mount stands at a place -/
def Low (d : Dk) (c : Cf) (q : Ps) : Prop := ∃ r : Rc, rcMay r = true ∧ r.bl = [] ∧ gat d (c.at_ q.s + q.o) 1 = rcBytes r ∧ gerr d (c.at_ q.s + q.o) 1 = 0 ∧ r.m < q.m
theorem Low.none_ {d : Dk} {c : Cf} {q : Ps} (h : Low d c q) : follow d c q = (none, 0) := by
 obtain ⟨r, hm, hb, hg, he, hl⟩ := h
 by_cases hin : 1 ≤ q.o ∧ q.o ≤ c.l - 1
 ·have hlen := rcBytes_length hm
  rw [hb] at hlen
  have hs := sizeRc_laid hm
  rw [hb, List.take_of_length_le (by rw [hlen]; decide)] at hs
  rw [gat_one] at hg
  have he2 := he
  rw [gerr_one] at he2
  have hsz : sizeRc (d.read (c.at_ q.s + q.o)) = 1 := by rw [hg]; exact hs
  rw [follow_rec hin rfl he2 hsz (by omega) he (by rw [gat_one, hg]; exact dec_rc hm), if_neg (by intro h; omega)]
 exact follow_out hin
theorem Low.agr {d d' : Dk} {c : Cf} {q : Ps} {lo hi : Int} (h : Low d c q) (ha : Agr d d' lo hi) (h1 : lo ≤ c.at_ q.s + q.o) (h2 : c.at_ q.s + q.o + 1 ≤ hi) : Low d' c q := by
 obtain ⟨r, hm, hb, hg, he, hl⟩ := h
 obtain ⟨e1, e2⟩ := gat_agr ha h1 1 (by omega)
 exact ⟨r, hm, hb, e1.trans hg, e2.trans he, hl⟩
structure Mt (d : Dk) (c : Cf) (q0 q : Ps) (want : Nat) (down : Bool) : Prop where
 rdy : Rdy d
 len : (d.safe.length : Int) = c.sectors
 zs : ∀ x, c.at_ q.s + q.o ≤ x → x < c.at_ q.s + c.l → d.read x = List.replicate 64 0
 s : q.s = q0.s
 o0 : 1 ≤ q0.o ∧ q0.o + want ≤ q.o
 o1 : q.o ≤ c.l - 1
 s0 : 0 ≤ q0.s ∧ q0.s ≤ c.s - 1
 st : (down = false ∧ ∃ l : List (Ps × Rc), l.length = want ∧ Laid d c q0 l q ∧ q.o = q0.o + want) ∨ (down = true ∧ ∃ (l : List (Ps × Rc)) (qf : Ps), l.length = want ∧ Laid d c q0 l qf ∧ qf.o = q0.o + want ∧ Low d c qf ∧ qf.o + 1 ≤ q.o)
theorem Mt.start {d : Dk} {c : Cf} {q0 q : Ps} (h : Lg d c q0 [] q) (hq : q = q0) : Mt d c q0 q 0 false := by
 subst hq
 exact ⟨h.rdy, h.len, h.zs, rfl, ⟨h.o0, by simp⟩, h.o1, h.s0, .inl ⟨rfl, [], rfl, h.laid, by simp⟩⟩
theorem Mt.step {d : Dk} {c : Cf} {q0 q : Ps} {want : Nat} {down : Bool} (h : Mt d c q0 q want down) (hc : c.Ok) {r : Rc} (hr : rcMay r = true) (hb : r.bl = []) (hn : r.n = q.l) (hp : r.p = q.p) (hx : nextOf r = none) (hf : q.o + 1 ≤ c.l - 1) :
  Mt (d.puts (c.at_ q.s + q.o) (rcBytes r)) c q0 ⟨q.s, q.o + 1, q.l + 1, (rcSum r : Nat), r.m⟩ (if (down || decide (r.m < q.m)) = true then want else want + 1) (down || decide (r.m < q.m)) := by
 obtain ⟨g1, g2, g3⟩ := Cf.sec c hc q.s (by rw [h.s]; exact h.s0.1) (by rw [h.s]; exact h.s0.2)
 have hl := h.len
 obtain ⟨ho0, ho1⟩ := h.o0
 have hlen := rcBytes_length hr
 rw [hb] at hlen
 have hlen' : (rcBytes r).length = 64 * 1 := hlen
 have hpt := h.rdy.puts (a := c.at_ q.s + q.o) (by omega) hlen' (by omega)
 have hg := h.rdy.puts_gat (a := c.at_ q.s + q.o) (by omega) hlen' (by omega)
 have hag := h.rdy.puts_agr (a := c.at_ q.s + q.o) (lo := c.at_ q.s) (hi := c.at_ q.s + q.o) (by omega) hlen' (by omega) (by omega) (.inl (Int.le_refl _))
 refine ⟨hpt.1, by rw [hpt.2.2]; exact hl, ?_, h.s, ⟨ho0, ?_⟩, by simp only; omega, h.s0, ?_⟩
 ·intro x hx1 hx2
  simp only at hx1 hx2
  have := h.rdy.puts_agr (a := c.at_ q.s + q.o) (lo := x) (hi := x + 1) (by omega) hlen' (by omega) (by omega) (.inr (by omega)) x (Int.le_refl _) (by omega)
  rw [this.2]
  exact h.zs x (by omega) (by omega)
 ·simp only; split <;> omega
 rcases h.st with ⟨rfl, l, h1, h2, h3⟩ | ⟨rfl, l, qf, h1, h2, h3, h4, h5⟩
 ·have hpl := h2.place
  have hla := h2.agr hag (by rw [← h.s]; omega) (by rw [← h.s]; exact Int.le_refl _)
  by_cases hk : r.m < q.m
  ·rw [Bool.false_or, decide_eq_true hk, if_pos rfl]
   exact .inr ⟨rfl, l, q, h1, hla, h3, ⟨r, hr, hb, hg.1, hg.2, hk⟩, by simp⟩
  rw [Bool.false_or, decide_eq_false hk, if_neg (by decide)]
  refine .inl ⟨rfl, l ++ [(q, r)], by rw [List.length_append, h1]; rfl, hla.snoc ?_ hx, by simp only; omega⟩
  have := follow_laid (c := c) (q := q) hr (by rw [hb]; exact hg.1) (by rw [hb]; exact hg.2) hpt.1.ok (by omega) (by rw [hb]; simp; omega) hn hp (by omega)
  rw [hb] at this
  exact this
 rw [Bool.true_or, if_pos rfl]
 have hpl := h2.place
 refine .inr ⟨rfl, l, qf, h1, h2.agr hag (by rw [← h.s]; omega) (by rw [← h.s]; omega), h3, h4.agr hag (by rw [hpl.1, ← h.s]; omega) (by rw [hpl.1, ← h.s]; omega), by simp only; omega⟩
theorem Mt.scan {d : Dk} {c : Cf} {q0 q : Ps} {want : Nat} {down : Bool} (h : Mt d c q0 q want down) (hc : c.Ok) : ∃ (l : List (Ps × Rc)) (qf : Ps), scanG d c 65 q0 = (l, qf, 0) ∧ l.length = want ∧ qf.o = q0.o + want := by
 have hll := hc.2.2
 have ho1 := h.o1
 obtain ⟨ho0, ho2⟩ := h.o0
 rcases h.st with ⟨rfl, l, h1, h2, h3⟩ | ⟨rfl, l, qf, h1, h2, h3, h4, h5⟩
 ·refine ⟨l, q, h2.told ho0 (by omega) ?_, h1, h3⟩
  obtain ⟨g1, g2, g3⟩ := Cf.sec c hc q.s (by rw [h.s]; exact h.s0.1) (by rw [h.s]; exact h.s0.2)
  have hl := h.len
  exact follow_zero (h.rdy.err0 (has_of (by omega) (by omega))) (h.zs _ (Int.le_refl _) (by omega))
 exact ⟨l, qf, h2.told ho0 (by omega) h4.none_, h1, h3⟩
end Go.Kn
namespace Go.Kn
open Go Go.RowKit
theorem Krs.fc0 {w : World} {A : Option Addr} {n c : Nat} {l : List KR} {ss : List (Option Addr × Nat × Nat)} (h : Krs w A n c l ss) : Fc w (fun _ => False) (fun W => Krs W A n c l ss) := fun W hW =>
 ⟨h.len, h.sl, h.le, h.cm, fun hn => by
  obtain ⟨g, o, e, hc⟩ := h.at_ hn
  exact ⟨g, o, e, fun i h1 h2 => by
   obtain ⟨a0, a1, a2, a3, a4⟩ := hc i h1 h2
   exact ⟨fc_cell a0 (by simp) W hW, fc_cell a1 (by simp) W hW, fc_cell a2 (by simp) W hW, fc_cell a3 (by simp) W hW, fc_cell a4 (by simp) W hW⟩⟩,
  fun i h1 h2 => Row1.fc (h.ks i h1 h2) (by simp) W hW⟩
/-- a disk of a device, ready, of which nothing is held -/
structure Std (d : Dk) (c : Cf) : Prop where
 rdy : Rdy d
 len : (d.safe.length : Int) = c.sectors
 held : d.held = []
theorem Std.start (c : Cf) (hc : c.Ok) : Std (Dk.new c.sectors.toNat) c := by
 obtain ⟨g1, g2, g3⟩ := Cf.sec c hc 0 (by decide) (by have := hc.2.1; omega)
 have hl := hc.2.2
 exact ⟨Rdy.new (by omega) (by omega), by simp [Dk.new]; omega, rfl⟩
theorem Std.puts {d : Dk} {c : Cf} (h : Std d c) {a : Int} {b : List UInt8} {n : Nat} (ha : 0 ≤ a) (hb : b.length = 64 * n) (hr : a + n ≤ c.sectors) : Std (d.puts a b) c := by
 have hl := h.len
 obtain ⟨h1, h2, h3⟩ := h.rdy.puts (a := a) (b := b) (n := n) ha hb (by omega)
 exact ⟨h1, by rw [h3]; exact hl, (h.rdy.live.puts a b).2⟩
theorem Std.head {d : Dk} {c : Cf} (h : Std d c) (hc : c.Ok) (p : Ps) (hs : 0 ≤ p.s ∧ p.s ≤ c.s - 1) : Std (d.puts (c.at_ p.s) (headB p)) c := by
 obtain ⟨g1, g2, g3⟩ := Cf.sec c hc p.s hs.1 hs.2
 have hl := hc.2.2
 exact h.puts (n := 1) (by omega) (headB_length p) (by omega)
theorem Std.log {c : Cf} (hc : c.Ok) : ∀ (l : List KR) (q : Ps) (d : Dk), Std d c → PsOk c q → Std (logRun c l q d).2 c
 | [], q, d, h, _ => h
 | r :: rs, q, d, h, hq => by
  cases he : encRc (kMade q r) with
  | none => rw [Go.Proofs.YtgcfdjcpcclcjaaGreat.logRun_none he]; exact h
  | some x =>
   obtain ⟨b, s⟩ := x
   by_cases hf : c.l - 1 < q.o + ((b.length / 64 : Nat) : Int)
   ·rw [Go.Proofs.YtgcfdjcpcclcjaaGreat.logRun_far he hf]; exact h
   rw [Go.Proofs.YtgcfdjcpcclcjaaGreat.logRun_go he hf]
   obtain ⟨g1, g2, g3⟩ := Cf.sec c hc q.s hq.s.1 hq.s.2
   obtain ⟨_, _, _, hb, _⟩ := enc_some he
   have ho := hq.o
   refine Std.log hc rs _ _ (h.puts (n := b.length / 64) (by omega) (by omega) (by omega)) (hq.next hc he hf)
theorem fault_held (d : Dk) (a : Int) (on : Bool) : (d.fault a on).1.held = d.held := by
 unfold Dk.fault
 split <;> rfl
def plc (a q p : Ps) (j : Nat) : Ps := if j = 0 then a else if j = 1 then q else p
theorem pos_cells {w : World} {g : Nat} {a q p : Ps} (h : Own w g [.int .i64 a.s, .int .i64 a.o, .int .i64 a.l, .int .i64 a.p, .int .i64 a.m, .int .i64 q.s, .int .i64 q.o, .int .i64 q.l, .int .i64 q.p, .int .i64 q.m, .int .i64 p.s, .int .i64 p.o, .int .i64 p.l, .int .i64 p.p, .int .i64 p.m]) {j : Nat} (hj : j < 3) :
  w.cell? ⟨g, j * 5, none⟩ = some (.int .i64 (plc a q p j).s) ∧ w.cell? ⟨g, j * 5 + 1, none⟩ = some (.int .i64 (plc a q p j).o) ∧ w.cell? ⟨g, j * 5 + 2, none⟩ = some (.int .i64 (plc a q p j).l) ∧ w.cell? ⟨g, j * 5 + 3, none⟩ = some (.int .i64 (plc a q p j).p) ∧ w.cell? ⟨g, j * 5 + 4, none⟩ = some (.int .i64 (plc a q p j).m) := by
 rcases (by omega : j = 0 ∨ j = 1 ∨ j = 2) with rfl | rfl | rfl
 ·exact ⟨h.cellv 0, h.cellv 1, h.cellv 2, h.cellv 3, h.cellv 4⟩
 ·exact ⟨h.cellv 5, h.cellv 6, h.cellv 7, h.cellv 8, h.cellv 9⟩
 exact ⟨h.cellv 10, h.cellv 11, h.cellv 12, h.cellv 13, h.cellv 14⟩
theorem pos_head {x1 x2 x3 x4 : Int} (h1 : 0 ≤ x1 ∧ x1 ≤ 31) (h2 : 1 ≤ x2 ∧ x2 ≤ 1048576) (h3 : 0 ≤ x3 ∧ x3 ≤ 4294967295) (h4 : 1 ≤ x4 ∧ x4 ≤ 1048576) (o : Int) : headMay (⟨x1, o, x2, x3, x4⟩ : Ps).head = true := by
 rw [headMay_iff]
 simp only [Ps.head]
 omega
end Go.Kn
namespace Go.Proofs.YtgcfdjcpcclcjaaGreat
open Go Go.RowKit Go.Kn
section
variable {w0 w w' : World} {p : PD} {r : RD} {d e : Dk} {L : List (Nat × List Value)} {G : List Gs} {F : List (World → Prop)}
theorem Duo.sub (h : Duo w0 w p r d e ⟨L, G, F⟩) {L' : List (Nat × List Value)} {G' : List Gs} {F' : List (World → Prop)} (hL : L'.Sublist L) (hG : G'.Sublist G) (hF : ∀ f ∈ F', f ∈ F) : Duo w0 w p r d e ⟨L', G', F'⟩ := by
 obtain ⟨L0, G0, F0, hw, back⟩ := h.fr
 exact back w ⟨L', G', F'⟩ ((hw.sub (hL.append_right L0) (F' := F' ++ F0) (fun f hf => (List.mem_append.1 hf).elim (fun h => List.mem_append_left _ (hF f h)) (List.mem_append_right _))).subG (hG.append_right G0))
end
end Go.Proofs.YtgcfdjcpcclcjaaGreat
namespace Go.Kn
open Go Go.RowKit
section
variable {α : Type} {f : α → Bool}
theorem countP_set_le (b : α) : ∀ (s : List α) (a : Nat), (s.set a b).countP f ≤ s.countP f + (if f b = true then 1 else 0)
 | [], a => by simp
 | x :: s, 0 => by
  rw [List.set_cons_zero, List.countP_cons, List.countP_cons]
  omega
 | x :: s, a + 1 => by
  rw [List.set_cons_succ, List.countP_cons, List.countP_cons]
  have := countP_set_le b s a
  omega
theorem countP_set_lt {z b : α} (hz : f z = false) (hb : f b = true) : ∀ (s : List α) (a : Nat), s[a]? = some b → s.countP f = (s.set a z).countP f + 1
 | [], a, h => by simp at h
 | x :: s, 0, h => by
  simp at h
  subst h
  rw [List.set_cons_zero, List.countP_cons, List.countP_cons, hz, hb]
  simp
 | x :: s, a + 1, h => by
  rw [List.set_cons_succ, List.countP_cons, List.countP_cons, countP_set_lt hz hb s a (by simpa using h)]
  omega
theorem count_le {z : α} (hz : f z = false) : ∀ (ks : List Nat) (s : List α), ks.Nodup → (∀ a ∈ ks, ∃ b, s[a]? = some b ∧ f b = true) → ks.length ≤ s.countP f
 | [], s, _, _ => by simp
 | a :: ks, s, hn, h => by
  obtain ⟨h1, h2⟩ := List.nodup_cons.1 hn
  obtain ⟨b, hb, hf⟩ := h a List.mem_cons_self
  rw [countP_set_lt hz hf s a hb, List.length_cons]
  have := count_le hz ks (s.set a z) h2 (fun c hc => by
   rw [List.getElem?_set_ne (fun e => h1 (by rw [e]; exact hc))]
   exact h c (mc _ hc))
  omega
end
/-- the number of the record that a sector heads -/
def numAt (d : Dk) (a : Int) : Option Int := (decRc (gat d a (sizeRc (d.read a)))).map (·.1.n)
theorem follow_at {d : Dk} {c : Cf} {p q : Ps} {r : Rc} {e : Int} (h : follow d c p = (some (r, q), e)) : d.err (c.at_ p.s + p.o) = 0 ∧ sizeRc (d.read (c.at_ p.s + p.o)) ≠ 0 ∧ numAt d (c.at_ p.s + p.o) = some r.n := by
 unfold follow at h
 split at h
 ·split at h
  ·split at h
   ·cases h
   rename_i h1 h2 h3
   split at h
   ·split at h
    ·cases h
    rename_i r' s hd
    split at h
    ·injection h with h4 h5
     injection h4 with h4
     injection h4 with h4 h6
     subst h4
     refine ⟨h2, fun e => h3 (.inl e), ?_⟩
     unfold numAt
     rw [hd]
     rfl
    cases h
   cases h
  cases h
 cases h
theorem scanG_follow {d : Dk} {c : Cf} : ∀ (k : Nat) (p : Ps) (x : Ps × Rc), x ∈ (scanG d c k p).1 → ∃ q e, follow d c x.1 = (some (x.2, q), e)
 | 0, _, x, h => by simp [scanG] at h
 | k + 1, p, x, h => by
  rcases hf : follow d c p with ⟨_ | ⟨r, q⟩, e⟩
  ·rw [scanG_none hf] at h; simp at h
  rw [scanG_some hf] at h
  split at h
  ·simp only [List.mem_singleton] at h
   subst h
   exact ⟨q, e, hf⟩
  rcases List.mem_cons.1 h with h | h
  ·subst h
   exact ⟨q, e, hf⟩
  exact scanG_follow k q x h
theorem scanR_follow {d : Dk} {c : Cf} {own : Bool} {p : Ps} {x : Ps × Rc} (h : x ∈ (scanR d c own p).1) : ∃ q e, follow d c x.1 = (some (x.2, q), e) := by
 unfold scanR at h
 split at h
 ·exact scanG_follow _ _ _ h
 simp at h
theorem chainG_follow {d : Dk} {c : Cf} : ∀ (k : Nat) (p : Ps) (x : Ps × Rc), x ∈ (chainG d c k p).1 → ∃ q e, follow d c x.1 = (some (x.2, q), e)
 | 0, _, x, h => by simp [chainG] at h
 | k + 1, p, x, h => by
  cases hn : nextIn c (scanR d c false p).1 with
  | none => rw [chainG_none hn] at h; exact scanR_follow h
  | some v =>
   rw [chainG_some hn] at h
   rcases List.mem_append.1 h with h | h
   ·exact scanR_follow h
   exact chainG_follow k _ x h
theorem chainG_num {d : Dk} {c : Cf} : ∀ (k : Nat) (p : Ps) (i : Nat) (x : Ps × Rc), (chainG d c k p).1[i]? = some x → x.2.n = p.l + (i : Nat)
 | 0, _, i, x, h => by simp [chainG] at h
 | k + 1, p, i, x, h => by
  obtain ⟨h1, h2⟩ := scanR_num (d := d) (c := c) p
  have one : ∀ j, (scanR d c false p).1[j]? = some x → x.2.n = p.l + (j : Nat) := fun j hj => by
   obtain ⟨h3, h4⟩ := List.getElem?_eq_some_iff.1 hj
   have := (h2 j h3).2.1
   rw [h4] at this
   exact this
  cases hn : nextIn c (scanR d c false p).1 with
  | none => rw [chainG_none hn] at h; exact one i h
  | some v =>
   rw [chainG_some hn] at h
   simp only at h
   by_cases hi : i < (scanR d c false p).1.length
   ·rw [List.getElem?_append_left hi] at h
    exact one i h
   rw [List.getElem?_append_right (by omega)] at h
   have := chainG_num k _ _ x h
   rw [this]
   show (scanR d c false p).2.1.l + _ = _
   rw [h1]
   omega
theorem rcHd_nil : rcHd [] = false := by decide
/-- a log tells at most as much as there are sectors that head a record -/
theorem told_le {d : Dk} {c : Cf} (k : Nat) (p : Ps) : (chainG d c k p).1.length ≤ d.now.countP rcHd := by
 have h := count_le (f := rcHd) rcHd_nil ((chainG d c k p).1.map fun x => (c.at_ x.1.s + x.1.o).toNat) d.now ?_ ?_
 ·rwa [List.length_map] at h
 ·rw [List.nodup_iff_pairwise_ne, List.pairwise_iff_getElem]
  intro i j hi hj hij he
  rw [List.length_map] at hi hj
  simp only [List.getElem_map] at he
  obtain ⟨q, e, hf⟩ := chainG_follow k p _ (List.getElem_mem hi)
  obtain ⟨q', e', hf'⟩ := chainG_follow k p _ (List.getElem_mem hj)
  obtain ⟨a1, _, a3⟩ := follow_at hf
  obtain ⟨b1, _, b3⟩ := follow_at hf'
  have n1 := chainG_num k p i _ (List.getElem?_eq_getElem hi)
  have n2 := chainG_num k p j _ (List.getElem?_eq_getElem hj)
  have hs : ∀ {x : Int}, d.err x = 0 → 0 ≤ x := fun {x} hx => by
   unfold Dk.err at hx
   split at hx
   ·rename_i hh
    unfold Dk.has at hh
    simp only [decide_eq_true_eq] at hh
    exact hh.1
   cases hx
  have h1 := hs a1
  have h2 := hs b1
  have heq : c.at_ ((chainG d c k p).1[i]).1.s + ((chainG d c k p).1[i]).1.o = c.at_ ((chainG d c k p).1[j]).1.s + ((chainG d c k p).1[j]).1.o := by omega
  rw [heq, b3] at a3
  injection a3 with a3
  omega
 intro a ha
 obtain ⟨x, hx, rfl⟩ := List.mem_map.1 ha
 obtain ⟨q, e, hf⟩ := chainG_follow k p x hx
 obtain ⟨a1, a2, _⟩ := follow_at hf
 have hr : d.read (c.at_ x.1.s + x.1.o) = d.sector (c.at_ x.1.s + x.1.o) := by unfold Dk.read; rw [if_pos a1]
 rw [hr] at a2
 unfold sizeRc at a2
 split at a2
 ·rename_i hh
  unfold Dk.sector at hh
  rw [List.getD_eq_getElem?_getD] at hh
  cases hg : d.now[(c.at_ x.1.s + x.1.o).toNat]? with
  | none => rw [hg] at hh; simp at hh
  | some b => rw [hg] at hh; exact ⟨b, rfl, hh.2⟩
 exact absurd rfl a2
/-- so many sectors of a disk that stands ready head a record -/
structure Hc (d : Dk) (c : Cf) (m : Nat) : Prop where
 std : Std d c
 n : d.now.countP rcHd ≤ m
theorem Hc.mono {d : Dk} {c : Cf} {m n : Nat} (h : Hc d c m) (hm : m ≤ n) : Hc d c n := ⟨h.std, Nat.le_trans h.n hm⟩
theorem Hc.start (c : Cf) (hc : c.Ok) : Hc (Dk.new c.sectors.toNat) c 0 := by
 refine ⟨Std.start c hc, ?_⟩
 have : (Dk.new c.sectors.toNat).now = List.replicate c.sectors.toNat (List.replicate 64 0) := rfl
 rw [this, List.countP_replicate, if_neg (by decide)]
 exact Nat.le_refl _
theorem setSecs_count {s : List (List UInt8)} {a : Nat} {b : List UInt8} : ∀ n : Nat, (∀ i, 1 ≤ i → i < n → rcHd ((b.drop (64 * i)).take 64) = false) → (setSecs s a b n).countP rcHd ≤ s.countP rcHd + (if n = 0 then 0 else if rcHd (b.take 64) = true then 1 else 0)
 | 0, _ => by simp [setSecs]
 | n + 1, h => by
  have ih := setSecs_count (s := s) (a := a) (b := b) n (fun i h1 h2 => h i h1 (by omega))
  rw [setSecs]
  have h1 := countP_set_le (f := rcHd) ((b.drop (64 * n)).take 64) (setSecs s a b n) (a + n)
  by_cases hn : n = 0
  ·subst hn
   simp only [Nat.mul_zero, List.drop_zero] at h1 ⊢
   simp only [if_true] at ih
   rw [if_neg (by omega)]
   omega
  rw [h n (by omega) (by omega)] at h1
  simp only [Bool.false_eq_true, if_false] at h1
  rw [if_neg hn] at ih
  rw [if_neg (by omega)]
  omega
theorem Hc.puts {d : Dk} {c : Cf} {m : Nat} (h : Hc d c m) {a : Int} {b : List UInt8} {n : Nat} (ha : 0 ≤ a) (hb : b.length = 64 * n) (hr : a + n ≤ c.sectors) (hx : ∀ i, 1 ≤ i → i < n → rcHd ((b.drop (64 * i)).take 64) = false) : Hc (d.puts a b) c (m + 1) := by
 have hl := h.std.len
 obtain ⟨_, h2, _⟩ := h.std.rdy.puts (a := a) (b := b) (n := n) ha hb (by omega)
 refine ⟨h.std.puts ha hb hr, ?_⟩
 rw [h2]
 have := setSecs_count (s := d.now) (a := a.toNat) n hx
 have := h.n
 split at * <;> (try split at *) <;> omega
theorem Hc.puts0 {d : Dk} {c : Cf} {m : Nat} (h : Hc d c m) {a : Int} {b : List UInt8} (ha : 0 ≤ a) (hb : b.length = 64) (hr : a + 1 ≤ c.sectors) (hx : rcHd b = false) : Hc (d.puts a b) c m := by
 have hl := h.std.len
 obtain ⟨_, h2, _⟩ := h.std.rdy.puts (a := a) (b := b) (n := 1) ha hb (by omega)
 refine ⟨h.std.puts (n := 1) ha hb hr, ?_⟩
 rw [h2]
 have := setSecs_count (s := d.now) (a := a.toNat) (b := b) 1 (fun i _ _ => by omega)
 rw [List.take_of_length_le (by omega), hx] at this
 simp only [Nat.one_ne_zero, Bool.false_eq_true, if_false, Nat.add_zero] at this
 exact Nat.le_trans this h.n
theorem rcHd_headB (p : Ps) : rcHd (headB p) = false := by
 have h : (headB p).take 2 = [75, 72] := by
  have h1 := sealed_part (headRow p.head) (headRow_length _) 0 2 (by decide)
  simp only [List.drop_zero] at h1
  unfold headB
  rw [h1, headRow_cat]
  rfl
 unfold rcHd
 rw [h]
 rfl
theorem rcHd_kBlk (x : Nat) : rcHd (kBlk x) = false := by
 have h : (kBlk x).take 2 = [kAt x 0, kAt x 1] := rfl
 unfold rcHd
 rw [h]
 have : ¬ [kAt x 0, kAt x 1] = [75, 82] := by
  intro e
  injection e with e1 e2
  injection e2 with e2 _
  have h1 := congrArg UInt8.toNat e1
  have h2 := congrArg UInt8.toNat e2
  unfold kAt at h1 h2
  rw [UInt8.toNat_ofNat'] at h1 h2
  simp at h1 h2
  omega
 rw [decide_eq_false this]
 rfl
theorem kBls_hd (zs : List Int) (f : Int) : ∀ n, ∀ b ∈ kBls zs f n, rcHd b = false
 | 0, b, h => by simp [kBls] at h
 | n + 1, b, h => by
  rw [kBls, List.mem_append] at h
  rcases h with h | h
  ·exact kBls_hd zs f n b h
  unfold kBl at h
  split at h
  ·rw [List.mem_singleton] at h
   rw [h]
   exact rcHd_kBlk _
  simp at h
/-- the sectors behind a record's first are its blocks -/
theorem rcBytes_blk {r : Rc} (h : rcMay r = true) {i : Nat} (h1 : 1 ≤ i) (h2 : i < 1 + r.bl.length) : ((rcBytes r).drop (64 * i)).take 64 ∈ r.bl := by
 obtain ⟨e, _⟩ := rcOf_bytes h
 have hk : r.bl = rcBl (rcBytes r) (rcK (rcBytes r)) := by
  have := congrArg Rc.bl e
  exact this.symm
 have hl : r.bl.length = rcK (rcBytes r) := by
  have := congrArg List.length hk
  rwa [rcBl_length] at this
 rw [hk]
 unfold rcBl
 refine List.mem_map.2 ⟨i - 1, by rw [List.mem_range]; omega, ?_⟩
 rw [show i - 1 + 1 = i from by omega]
theorem Hc.log {c : Cf} (hc : c.Ok) : ∀ (l : List KR) (q : Ps) (d : Dk) (m : Nat), Hc d c m → PsOk c q → Hc (logRun c l q d).2 c (m + l.length)
 | [], q, d, m, h, _ => h
 | r :: rs, q, d, m, h, hq => by
  cases he : encRc (kMade q r) with
  | none => rw [Go.Proofs.YtgcfdjcpcclcjaaGreat.logRun_none he]; exact h.mono (by simp)
  | some x =>
   obtain ⟨b, s⟩ := x
   by_cases hf : c.l - 1 < q.o + ((b.length / 64 : Nat) : Int)
   ·rw [Go.Proofs.YtgcfdjcpcclcjaaGreat.logRun_far he hf]; exact h.mono (by simp)
   rw [Go.Proofs.YtgcfdjcpcclcjaaGreat.logRun_go he hf]
   obtain ⟨g1, g2, g3⟩ := Cf.sec c hc q.s hq.s.1 hq.s.2
   obtain ⟨hm, hb, _, hbl, _⟩ := enc_some he
   have ho := hq.o
   have := Hc.log hc rs _ _ _ (h.puts (a := c.at_ q.s + q.o) (b := b) (n := b.length / 64) (by omega) (by omega) (by omega) (fun i h1 h2 => by
    rw [hb]
    refine kBls_hd r.kinds r.fill _ _ (rcBytes_blk hm h1 (by omega)))) (hq.next hc he hf)
   rw [List.length_cons, show m + (rs.length + 1) = m + 1 + rs.length from by omega]
   exact this
theorem Hc.turn {c : Cf} (hc : c.Ok) {q : Ps} {d : Dk} {m : Nat} {v : Int} (h : Hc d c m) (hq : PsOk c q) (hm : rcMay (nextR q v) = true) (ho : q.o ≤ c.l - 1) (hv : 0 ≤ v ∧ v ≤ c.s - 1) (b : Bool) : Hc (turnRun c v b q d).2 c (m + 1) := by
 obtain ⟨g1, g2, g3⟩ := Cf.sec c hc q.s hq.s.1 hq.s.2
 obtain ⟨k1, k2, k3⟩ := Cf.sec c hc v hv.1 hv.2
 have ho2 := hq.o
 have hl := hc.2.2
 have h1 : Hc (d.puts (c.at_ q.s + q.o) (rcBytes (nextR q v))) c (m + 1) := h.puts (n := 1) (by omega) (rcBytes_64 hm rfl) (by omega) (fun i _ _ => by omega)
 unfold turnRun
 split
 ·exact h1.puts0 (by omega) (headB_length _) (by omega) (rcHd_headB _)
 exact h1
theorem logRun_o (c : Cf) : ∀ (l : List KR) (q : Ps) (d : Dk), q.o ≤ c.l - 1 → (logRun c l q d).1.o ≤ c.l - 1
 | [], q, d, h => h
 | r :: rs, q, d, h => by
  unfold logRun
  cases encRc (kMade q r) with
  | none => exact h
  | some x =>
   obtain ⟨b, s⟩ := x
   simp only
   split
   ·exact h
   exact logRun_o c rs _ _ (by show q.o + _ ≤ _; omega)
theorem Hc.laid {c : Cf} (hc : c.Ok) : ∀ (l : List PR) (b : Int) (q : Ps) (d : Dk) (m : Nat), Hc d c m → LdOk c b q d → q.o ≤ c.l - 1 → (∀ x ∈ l, x.recs.length ≤ 4) → b + 100 * (l.length : Int) ≤ 100000 → Hc (laidGo c l q d).2 c (m + 5 * l.length)
 | [], b, q, d, m, h, _, _, _, _ => h
 | x :: l, b, q, d, m, h, hq, ho, hx, hb => by
  have h4 := hx x List.mem_cons_self
  have h1 := Hc.log hc x.recs q d m h hq.ps
  obtain ⟨h2, h3⟩ := hq.log hc x.recs
  have h5 := logRun_o c x.recs q d ho
  rw [List.length_cons] at hb ⊢
  have hs := hc.2.1
  have hl := hc.2.2
  have hv : 0 ≤ x.next % c.s ∧ x.next % c.s ≤ c.s - 1 := by
   have e1 := Int.emod_nonneg x.next (b := c.s) (by omega)
   have e2 := Int.emod_lt_of_pos x.next (b := c.s) (by omega)
   omega
  push_cast at hb
  have hmy := (nextR_ok (q := (logRun c x.recs q d).1) (v := x.next % c.s) ⟨h2.m.1, by have := h2.m.2; omega⟩ ⟨h2.l.1, by have := h2.l.2; omega⟩ h2.p ⟨hv.1, by omega⟩).1
  by_cases hn : l = []
  ·subst hn
   rw [laidGo_one]
   exact h1.mono (by simp; omega)
  have h6 := fun b => h1.turn hc h2.ps hmy h5 hv b
  cases hlo : x.lost with
  | true =>
   rw [laidGo_lost hn hlo]
   exact (h6 false).mono (by omega)
  | false =>
   rw [laidGo_on hn hlo]
   have h7 := h2.turn hc (v := x.next % c.s) (by omega) hv
   have := Hc.laid hc l _ _ _ _ (h6 true) h7 (by unfold turnRun; rw [if_pos rfl]; show (1 : Int) ≤ _; omega) (fun y hy => hx y (mc _ hy)) (by omega)
   exact this.mono (by omega)
theorem Hc.laidRun {c : Cf} (hc : c.Ok) {l : List PR} {p : Ps} (hp : headMay p.head = true) (hs : p.s ≤ c.s - 1) (hm : p.m ≤ 2097152) (hl : p.l ≤ 2097152) (hn : l.length ≤ 8) (hx : ∀ x ∈ l, x.recs.length ≤ 4) : Hc (laidRun c l p (Dk.new c.sectors.toNat)).2 c 40 := by
 obtain ⟨hb1, hb2, hb3, hb4⟩ := headMay_iff.1 hp
 simp only [Ps.head] at hb1 hb2 hb3 hb4
 obtain ⟨g1, g2, g3⟩ := Cf.sec c hc p.s hb1.1 hs
 have hcl := hc.2.2
 have h0 := (Hc.start c hc).puts0 (a := c.at_ p.s) (by omega) (headB_length p) (by omega) (rcHd_headB p)
 have hlv : ((Dk.new c.sectors.toNat).puts (c.at_ p.s) (headB p)).Live ∧ ((Dk.new c.sectors.toNat).puts (c.at_ p.s) (headB p)).held = [] := Dk.Live.puts ⟨rfl, rfl⟩ _ _
 have hok : LdOk c 0 ⟨p.s, 1, p.l, p.p, p.m⟩ ((Dk.new c.sectors.toNat).puts (c.at_ p.s) (headB p)) := by
  refine ⟨⟨⟨by show -1000000000000 ≤ p.m ∧ p.m ≤ 1000000000000; omega, by show -1000000000000 ≤ p.l ∧ p.l ≤ 1000000000000; omega, by show -1000000000000 ≤ p.p ∧ p.p ≤ 1000000000000; omega⟩, ⟨hb1.1, hs⟩, by show (0 : Int) ≤ 1 ∧ (1 : Int) ≤ 64; decide⟩, by show (1 : Int) ≤ 1; decide, ⟨hb2.1, by show p.m ≤ _; omega⟩, ⟨hb3.1, by show p.l ≤ _; omega⟩, hb4, hlv.1, hlv.2⟩
 have := Hc.laid hc l 0 _ _ 0 h0 hok (by show (1 : Int) ≤ _; omega) hx (by omega)
 exact this.mono (by omega)
end Go.Kn
namespace Go.Kn
open Go Go.RowKit
section
variable {c : Cf} {s0 : Int} {q0 : Ps}
/-- chain's answer, whatever it takes -/
def chainR (d : Dk) (c : Cf) (p : Ps) : List (Ps × Rc) × Ps × Int := chainG d c ((2147483648 - p.l).toNat + 1) p
theorem Run.told {T : Nat} {sg : Nat → Int} {d : Dk} (hs : Sgs c sg T) (hT : T ≤ 8) {p q' : Ps} {l : List (Ps × Rc)} {Y : Nat} {e : Int} (h : Run c sg T d 1 ⟨p.s, 1, p.l, p.p, p.m⟩ l Y q') (hh : Hd d c ⟨p.s, 0, p.l, p.p, p.m⟩) (hf : follow d c q' = (none, e)) (hl : p.l ≤ 1000) (ho : p.o = 0) :
  chainR d c p = (l, q', e) := by
 have hp := h.pl
 have hlt := hp.2.1.lt
 have hseg := hp.1.seg hs
 have e1 := h.chain hs hf 65 (2147483648 - p.l).toNat (by omega) (by omega)
 obtain ⟨ps, po, pl, pp, pm⟩ := p
 simp only at ho
 subst ho
 have e2 := (hh.scan hs.ok hseg).1
 unfold chainR
 rw [chainG_M, e2]
 exact e1
/-- of a log of which a sector is spoilt just what stands ahead of it is told -/
theorem Run.cut {T : Nat} {sg : Nat → Int} {d d' : Dk} (hs : Sgs c sg T) {q0 q' : Ps} {l : List (Ps × Rc)} {Y : Nat} (h : Run c sg T d 1 q0 l Y q') {k : Nat} (hk : k ≤ l.length) :
  ∃ Yk qk, PlY sg T Yk qk ∧ (∀ x, l[k]? = some x → x.1 = qk) ∧ (k = l.length → qk = q') ∧
   ((∀ z, z < 24 * T → z ≠ Yk → d'.err (Sec c sg z) = d.err (Sec c sg z) ∧ d'.read (Sec c sg z) = d.read (Sec c sg z)) → Run c sg T d' 1 q0 (l.take k) Yk qk) := by
 obtain ⟨Yk, qk, h1, h2, h3⟩ := h.split k hk
 have hp := h1.pl
 refine ⟨Yk, qk, hp.2.1, h3, fun e => ?_, fun ha => h1.agr (fun y a b => ha y (by have := hp.2.1.lt; omega) (by omega))⟩
 subst e
 rw [List.drop_length] at h2
 cases h2
 rfl
end
end Go.Kn
namespace Go.Kn
open Go Go.RowKit
theorem Its.one {w : World} {g : Nat} {k b c v : Int} (h : Own w g [.int .i64 k, .int .i64 b, .int .i64 c, .int .i64 v]) : Its w (some ⟨g, 0, none⟩) 1 1 [⟨k, b, c, v⟩] :=
 ⟨rfl, Nat.le_refl _, by decide, fun _ => ⟨g, 0, rfl, fun i hi => by
  obtain rfl : i = 0 := by simp at hi; omega
  exact ⟨h.cell 0 (by simp), h.cell 1 (by simp), h.cell 2 (by simp), h.cell 3 (by simp)⟩⟩⟩
end Go.Kn
namespace Go.Proofs.YtgcfdjcpcclcjaaGreat
open Go Go.RowKit Go.Kn
theorem Duo.boxi {w0 w : World} {p : PD} {r : RD} {d e : Dk} {c : Fr3} (h : Duo w0 w p r d e c) (i : Nat) {x : Nat × List Value} (hi : c.L[i]? = some x) : Kn.Own w x.1 x.2 := h.box (List.mem_of_getElem? hi)
theorem kit_turn_any (w0 w : World) (p : PD) (r : RD) (d : Dk) (c : Fr3) (cf : Cf) (q : Ps) (v : Int) (hb : Bool) (h : Duo w0 w p r d d c) (hc : cf.Ok) (hq : PsOk cf q) (hm : 1 ≤ q.m ∧ q.m ≤ 2147483647) (hl : 1 ≤ q.l ∧ q.l ≤ 2147483646) (hp : 0 ≤ q.p ∧ q.p ≤ 4294967295) (hv : 0 ≤ v ∧ v ≤ cf.s - 1) (hlv : d.Live) (hh : d.held = []) :
  Calls Tryz.prog 138 #[.pointer (some ⟨p.D, 0, none⟩), .pointer (some ⟨r.M, 0, none⟩), .agg #[.int .i64 cf.b, .int .i64 cf.s, .int .i64 cf.l], .agg #[.int .i64 q.s, .int .i64 q.o, .int .i64 q.l, .int .i64 q.p, .int .i64 q.m], .int .i64 v, .bool hb] w (LogSays w0 p r c (turnRun cf v hb q d)) := by
 have hres : Tryz.f138.results = #[.cell 12 32, .tmp 13] := by kernel_rfl
 have HRES := hH hres
 have hs32 := hc.2.1
 obtain ⟨hmy, -⟩ := nextR_ok (q := q) (v := v) hm ⟨hl.1, by omega⟩ hp ⟨hv.1, by omega⟩
 have HENC := hH (enc_rc hmy)
 have H64 := hH (rcBytes_64 hmy rfl)
 have hsum := rcSum_lt2 hmy
 have hmay : headMay (nextP q v 0).head = true := head_may ⟨hv.1, by omega⟩ ⟨by omega, by omega⟩ ⟨by omega, by omega⟩ hm
 have HMAY := hH hmay
 have HAT := hH (hq.at_ hc)
 have HC := hH hc
 have HV := hH hv
 have HHE := hH hh
 have HLV := hH hlv
 have HQO := hH hq.o
 have hqo := hq.o
 have hw1 := IntWalk.i64_in (q.l + 1) (by omega)
 have hs1 : (w.alloc (.cells #[.int .i64 cf.b, .int .i64 cf.s, .int .i64 cf.l] 25)).heap.size = w.heap.size + 1 := by simp
 have hs2 : ((w.alloc (.cells #[.int .i64 cf.b, .int .i64 cf.s, .int .i64 cf.l] 25)).alloc (.cells #[.int .i64 q.s, .int .i64 q.o, .int .i64 q.l, .int .i64 q.p, .int .i64 q.m] 32)).heap.size = w.heap.size + 1 + 1 := by simp
 have H := hH (((h.newB #[.int .i64 cf.b, .int .i64 cf.s, .int .i64 cf.l] 25 rfl).newB #[.int .i64 q.s, .int .i64 q.o, .int .i64 q.l, .int .i64 q.p, .int .i64 q.m] 32 hs1).newB #[.int .i64 0, .int .i64 0, .int .i64 0, .int .i64 0, .int .i64 0] 32 hs2)
 clear h hres hc hq hmy hmay hv hh hlv
 go_enter Tryz.func138, Tryz.ntmps138
 go_upto_region 1 with (fail)
 (try rw [hs2])
 (try rw [hs1])
 generalize hz1 : ((w.alloc (.cells #[.int .i64 cf.b, .int .i64 cf.s, .int .i64 cf.l] 25)).alloc (.cells #[.int .i64 q.s, .int .i64 q.o, .int .i64 q.l, .int .i64 q.p, .int .i64 q.m] 32)).alloc (.cells #[.int .i64 0, .int .i64 0, .int .i64 0, .int .i64 0, .int .i64 0] 32) = w1 at *
 clear hz1 hs1 hs2
 generalize w.heap.size = fb at *
 generalize fb + 1 = fp at *
 generalize fp + 1 = fo at *
 obtain ⟨p0, p1, p2, p3, p4⟩ := own5 (H.out.box (x := (fp, [.int .i64 q.s, .int .i64 q.o, .int .i64 q.l, .int .i64 q.p, .int .i64 q.m])) (by simp))
 have HA := hH (H.out.newB #[.int .i64 7, .int .i64 0, .int .i64 0, .int .i64 v] 63 rfl)
 have HIT := hH (Its.one (HA.out.boxi 0 rfl))
 clear H
 go_wp2_with fail
 refine (ref_rec_enc_any q.m q.l q.p (some ⟨w1.heap.size, 0, none⟩) 1 1 [⟨7, 0, 0, v⟩] none 0 0 [] _ HIT.out (Blks.nil _)).mono ?_
 rintro en w2 hen
 rw [show (⟨q.m, q.l, q.p, [⟨7, 0, 0, v⟩], []⟩ : Rc) = nextR q v from rfl, HENC.out] at hen
 obtain ⟨g2, c2, rfl, hbc, hcm2, hg2, hown, hO⟩ := EncRc.of_some hen
 rw [H64.out] at hbc ⊢
 have HD := hH ((HA.out.addFc hO (f := fun W => Bys W (some ⟨g2, 0, none⟩) 64 c2 (rcBytes (nextR q v))) (Row1.fc (Row1.of_Own hown (by rw [bvs_length, H64.out]) hbc hcm2) (fun _ a ha => by injection ha with ha; subst ha; exact Nat.not_lt.2 hg2))).ldrop)
 clear hen hbc hcm2 hg2 hown hO HA HIT p0 p1 p2 p3 p4
 go_wp2_with fail
 have HY := hH HD.out.drew
 clear HD
 refine wp_region_held_drew (S := (fun w' => Kn.Own w' fp [.int .i64 q.s, .int .i64 q.o, .int .i64 q.l, .int .i64 q.p, .int .i64 q.m] ∧ Kn.Own w' fb [.int .i64 cf.b, .int .i64 cf.s, .int .i64 cf.l])) (by kernel_rfl) ⟨HY.out.box (x := (fp, [.int .i64 q.s, .int .i64 q.o, .int .i64 q.l, .int .i64 q.p, .int .i64 q.m])) (by simp), HY.out.box (x := (fb, [.int .i64 cf.b, .int .i64 cf.s, .int .i64 cf.l])) (by simp)⟩ (fun hSw0 => ?_)
 generalize w2.drew = wz at *
 refine tS 0 34 ?_
 refine tS 1 35 ?_
 refine tS 2 36 ?_
 refine tS 3 37 ?_
 refine tS 4 38 ?_
 refine tS 5 39 (v := (.agg #[.int .i64 cf.b, .int .i64 cf.s, .int .i64 cf.l])) (hy := fun w hSw => by
  have q0 := hSw.2
  obtain ⟨q00, q01, q02⟩ := Kn.own3 q0
  clear q0
  go_simp) ?_
 refine tS 6 40 ?_
 refine tS 7 41 (v := (.int .i64 q.s)) (hy := fun w hSw => by
  have q0 := Kn.own1 hSw.1
  go_simp) ?_
 refine tS 9 43 ?_
 refine tS 10 44 (v := (.int .i64 q.o)) (hy := fun w hSw => by
  have q0 := hSw.1.cell 1 (by simp)
  simp only [g0, gs] at q0
  go_simp) ?_
 refine tS 12 46 ?_
 refine tR 8 42 fun K hK => ?_
 go_simp
 refine (ref_segat_any cf q.s _ HC.out).mono ?_
 rintro en wu ⟨rfl, hO⟩
 have HY2 := hH (HY.out.keep0 hO)
 clear hO HY
 have hat := HAT.out
 have hw3 := IntWalk.i64_in (cf.at_ q.s + q.o) (by omega)
 clear hat
 refine hK.out _ _ ⟨HY2.out.box (x := (fp, [.int .i64 q.s, .int .i64 q.o, .int .i64 q.l, .int .i64 q.p, .int .i64 q.m])) (by simp), HY2.out.box (x := (fb, [.int .i64 cf.b, .int .i64 cf.s, .int .i64 cf.l])) (by simp)⟩ (fun hSn => ?_)
 clear hK K hSw0
 have hSw0 := hSn
 clear hSn
 refine tS 11 45 ?_
 refine tR 13 47 fun K hK => ?_
 go_simp
 refine (kit_put_any w0 _ p r d _ (cf.at_ q.s + q.o) (some ⟨g2, 0, none⟩) 64 c2 (rcBytes (nextR q v)) HY2.out List.mem_cons_self (by rw [HHE.out]; simp) (by decide) (by have := HAT.out; omega)).mono ?_
 rintro en wv ⟨rfl, hd⟩
 have HY3 := hH hd
 clear hd HY2
 refine hK.out _ _ ⟨HY3.out.box (x := (fp, [.int .i64 q.s, .int .i64 q.o, .int .i64 q.l, .int .i64 q.p, .int .i64 q.m])) (by simp), HY3.out.box (x := (fb, [.int .i64 cf.b, .int .i64 cf.s, .int .i64 cf.l])) (by simp)⟩ (fun hSn => ?_)
 clear hK K hSw0
 have hSw0 := hSn
 clear hSn
 refine tS 14 48 ?_
 refine tS 15 49 ?_
 refine tD ?_ _
 clear hSw0
 obtain ⟨p0, p1, p2, p3, p4⟩ := own5 (HY3.out.box (x := (fp, [.int .i64 q.s, .int .i64 q.o, .int .i64 q.l, .int .i64 q.p, .int .i64 q.m])) (by simp))
 go_upto_region 5 with (fail)
 have HN := hH (HY3.out.newB #[.int .i64 v, .int .i64 0, .int .i64 (q.l + 1), .int .i64 ((rcSum (nextR q v) : Nat) : Int), .int .i64 q.m] 32 rfl)
 generalize hz : wv.alloc (.cells #[.int .i64 v, .int .i64 0, .int .i64 (q.l + 1), .int .i64 ((rcSum (nextR q v) : Nat) : Int), .int .i64 q.m] 32) = wn at *
 generalize wv.heap.size = fn at *
 clear hz HY3 p0 p1 p2 p3 p4
 obtain ⟨n0, n1, n2, n3, n4⟩ := own5 (HN.out.boxi 0 rfl)
 have z := HN.out.box (x := (fo, [.int .i64 0, .int .i64 0, .int .i64 0, .int .i64 0, .int .i64 0])) (by simp)
 have z0 := z.frozen 0
 have z1 := z.frozen 1
 have z2 := z.frozen 2
 have z3 := z.frozen 3
 have z4 := z.frozen 4
 obtain ⟨o0, o1, o2, o3, o4⟩ := Kn.own5 z
 clear z
 cases hb with
 | false =>
  go_wp2_with fail
  have HEND := hH (Duo.subF ((HN.out.call 1 rfl (own_set5 (HN.out.box (x := (fo, [.int .i64 0, .int .i64 0, .int .i64 0, .int .i64 0, .int .i64 0])) (by simp)) (.int .i64 v) (.int .i64 0) (.int .i64 (q.l + 1)) (.int .i64 ((rcSum (nextR q v) : Nat) : Int)) (.int .i64 q.m)) (only_set5 _ fo _ _ _ _ _)).ldrop.ldrop.ldrop.ldrop) (F' := c.F) (fun f hf => by simp [hf]))
  (try simp only [Exit.inBlock, Exit.then])
  refine bodyPost_ret (v := .tuple #[.agg #[.int .i64 v, .int .i64 0, .int .i64 (q.l + 1), .int .i64 ((rcSum (nextR q v) : Nat) : Int), .int .i64 q.m], .bool true]) ?_ rfl ?_
  ·simp only [results, HRES.out]
   go_simp
  exact ⟨rfl, HEND.out⟩
 | true =>
  obtain ⟨e0, e1, e2⟩ := own3 (HN.out.box (x := (fb, [.int .i64 cf.b, .int .i64 cf.s, .int .i64 cf.l])) (by simp))
  go_wp2_with fail
  refine (kit_head_any w0 _ p r _ _ cf (nextP q v 0) HN.out HC.out HMAY.out HV.out.2 (by rw [(HLV.out.puts _ _).2]; simp)).mono ?_
  rintro en wh ⟨rfl, hd⟩
  have HH := hH hd
  clear hd HN n0 n1 n2 n3 n4 e0 e1 e2 z0 o0 z1 o1 z2 o2 z3 o3 z4 o4
  obtain ⟨n0, n1, n2, n3, n4⟩ := own5 (HH.out.boxi 0 rfl)
  have hfr := (HH.out.boxi 0 rfl).frozen 1
  have hlt := (HH.out.boxi 0 rfl).lt
  go_upto_region 9 with (fail)
  have HH2 := hH (HH.out.put 0 rfl 1 (.int .i64 1))
  simp only [List.set_cons_zero, List.set_cons_succ] at HH2
  generalize wh.setCell ⟨fn, 1, none⟩ (.int .i64 1) = wi at *
  clear n0 n1 n2 n3 n4 hfr hlt HH
  obtain ⟨n0, n1, n2, n3, n4⟩ := own5 (HH2.out.boxi 0 rfl)
  have z := HH2.out.box (x := (fo, [.int .i64 0, .int .i64 0, .int .i64 0, .int .i64 0, .int .i64 0])) (by simp)
  have z0 := z.frozen 0
  have z1 := z.frozen 1
  have z2 := z.frozen 2
  have z3 := z.frozen 3
  have z4 := z.frozen 4
  obtain ⟨o0, o1, o2, o3, o4⟩ := Kn.own5 z
  clear z
  go_wp2_with fail
  have HEND := hH (Duo.subF ((HH2.out.call 1 rfl (own_set5 (HH2.out.box (x := (fo, [.int .i64 0, .int .i64 0, .int .i64 0, .int .i64 0, .int .i64 0])) (by simp)) (.int .i64 v) (.int .i64 1) (.int .i64 (q.l + 1)) (.int .i64 ((rcSum (nextR q v) : Nat) : Int)) (.int .i64 q.m)) (only_set5 _ fo _ _ _ _ _)).ldrop.ldrop.ldrop.ldrop) (F' := c.F) (fun f hf => by simp [hf]))
  (try simp only [Exit.inBlock, Exit.then])
  refine bodyPost_ret (v := .tuple #[.agg #[.int .i64 v, .int .i64 1, .int .i64 (q.l + 1), .int .i64 ((rcSum (nextR q v) : Nat) : Int), .int .i64 q.m], .bool true]) ?_ rfl ?_
  ·simp only [results, HRES.out]
   go_simp
  exact ⟨rfl, HEND.out⟩
end Go.Proofs.YtgcfdjcpcclcjaaGreat
namespace Go.Kn
open Go Go.RowKit
def CB (D gb : Nat) (p e : Ps) (er : Int) : List Value :=
 [.pointer (some ⟨D, 0, none⟩), .pointer (some ⟨gb, 0, none⟩), .int .i64 p.s, .int .i64 p.o, .int .i64 p.l, .int .i64 p.p, .int .i64 p.m, .int .i64 e.s, .int .i64 e.o, .int .i64 e.l, .int .i64 e.p, .int .i64 e.m, .int .i64 er]
end Go.Kn
namespace Go.Proofs.YtgcfdjcpcclcjaaGreat
open Go Go.RowKit Go.Kn
theorem chain_new_any {wb : World} (w0 w : World) (D gb : Nat) (p : Ps) (L : List (Nat × List Value)) (G : List Gs) (F : List (World → Prop)) (hw : Wk w0 wb w L G F) :
  Calls Tryz.prog 56 #[.pointer (some ⟨D, 0, none⟩), .pointer (some ⟨gb, 0, none⟩), .agg #[.int .i64 p.s, .int .i64 p.o, .int .i64 p.l, .int .i64 p.p, .int .i64 p.m]] w fun en w' => ∃ C, en = .returned (.pointer (some ⟨C, 0, none⟩)) ∧ Wk w0 wb w' ((C, CB D gb p p 0) :: L) G F := by
 have H := hH hw
 clear hw
 go_enter Tryz.func56, Tryz.ntmps56
 go_wp2
 go_ret
 exact ⟨_, rfl, (H.out.alloc (.cells #[.int .i64 p.s, .int .i64 p.o, .int .i64 p.l, .int .i64 p.p, .int .i64 p.m] 32)).newB #[.pointer (some ⟨D, 0, none⟩), .pointer (some ⟨gb, 0, none⟩), .int .i64 p.s, .int .i64 p.o, .int .i64 p.l, .int .i64 p.p, .int .i64 p.m, .int .i64 p.s, .int .i64 p.o, .int .i64 p.l, .int .i64 p.p, .int .i64 p.m, .int .i64 0] 205 (by simp)⟩
theorem chain_new_none (w : World) (gb : Nat) (p : Ps) :
  Calls Tryz.prog 56 #[.pointer none, .pointer (some ⟨gb, 0, none⟩), .agg #[.int .i64 p.s, .int .i64 p.o, .int .i64 p.l, .int .i64 p.p, .int .i64 p.m]] w fun en w' => en = .returned (.pointer none) ∧ Only [] w w' := by
 go_enter Tryz.func56, Tryz.ntmps56
 go_wp2
 go_ret
 exact ⟨rfl, (Only.refl _ _).alloc _⟩
theorem chain_end_any (w : World) (C D gb : Nat) (p e : Ps) (er : Int) (h : Kn.Own w C (CB D gb p e er)) :
  Calls Tryz.prog 58 #[.pointer (some ⟨C, 0, none⟩)] w fun en w' => en = .returned (.agg #[.int .i64 e.s, .int .i64 e.o, .int .i64 e.l, .int .i64 e.p, .int .i64 e.m]) ∧ Only [] w w' := by
 have hres : Tryz.f58.results = #[.cell 2 32] := by kernel_rfl
 have HRES := hH hres
 have c0 := h.cellv 7
 have c1 := h.cellv 8
 have c2 := h.cellv 9
 have c3 := h.cellv 10
 have c4 := h.cellv 11
 have hlt := h.lt
 clear h hres
 go_enter Tryz.func58, Tryz.ntmps58
 go_wp2
 (try simp only [Exit.inBlock, Exit.then])
 refine bodyPost_ret (v := .agg #[.int .i64 e.s, .int .i64 e.o, .int .i64 e.l, .int .i64 e.p, .int .i64 e.m]) ?_ rfl ⟨rfl, ?_⟩
 ·simp only [results, HRES.out]
  go_simp
 exact (Only.refl _ _).alloc _
theorem chain_err_any (w : World) (C D gb : Nat) (p e : Ps) (er : Int) (h : Kn.Own w C (CB D gb p e er)) :
  Calls Tryz.prog 59 #[.pointer (some ⟨C, 0, none⟩)] w fun en w' => en = .returned (.int .i64 er) ∧ w = w' := by
 have c0 := h.cellv 12
 clear h
 go_enter Tryz.func59, Tryz.ntmps59
 go_wp2
 go_ret
 exact ⟨rfl, rfl⟩
theorem chain_err_none (w : World) : Calls Tryz.prog 59 #[.pointer none] w fun en w' => en = .returned (.int .i64 1) ∧ w = w' := by
 go_enter Tryz.func59, Tryz.ntmps59
 go_wp2
 go_ret
 exact ⟨rfl, rfl⟩
theorem chain_records_any (p : Option Addr) (w : World) : Calls Tryz.prog 137 #[.pointer p] w fun e w' => e = .returned (.func (.func 179) #[] #[.pointer (some ⟨w.heap.size, 0, none⟩)]) ∧ w' = w.alloc (.cells #[.pointer p] 113) := by
 go_enter Tryz.func137, Tryz.ntmps137
 go_wp2
 go_ret
 exact ⟨rfl, rfl⟩
theorem chain_on_any (w0 w : World) (C D gb : Nat) (cf : Cf) (p e : Ps) (er : Int) (x : Rc) (s t : Option Addr × Nat × Nat) (q : Ps) (L : List (Nat × List Value)) (G : List Gs) (F : List (World → Prop)) (hw : Wc w0 w L G F) (hC : (C, CB D gb p e er) ∈ L) (hx : (fun W => RcAt W x s t) ∈ F) (hg : (fun W => GeoAt W gb cf.b cf.s cf.l) ∈ F) (hc : cf.Ok) (hn : ∀ v, nextOf x = some v → 0 ≤ v ∧ v ≤ 31) :
  Calls Tryz.prog 180 #[.pointer (some ⟨C, 0, none⟩), .agg (x.cells s t), .agg #[.int .i64 q.s, .int .i64 q.o, .int .i64 q.l, .int .i64 q.p, .int .i64 q.m]] w fun en w' => en = .returned (.tuple #[.agg #[.int .i64 (onP cf x q).1.s, .int .i64 (onP cf x q).1.o, .int .i64 (onP cf x q).1.l, .int .i64 (onP cf x q).1.p, .int .i64 (onP cf x q).1.m], .bool (onP cf x q).2]) ∧ Only [] w w' := by
 have hres : Tryz.f180.results = #[.cell 6 32, .tmp 7] := by kernel_rfl
 have HRES := hH hres
 obtain ⟨s1, s2, s3⟩ := s
 obtain ⟨t1, t2, t3⟩ := t
 have HX := hH hx
 have HGE := hH hg
 have HC := hH hc
 have HCC := hH hC
 have hO := ((((Only.refl [] w).alloc (.cells #[.int .i64 x.m, .int .i64 x.n, .int .i64 x.p, .slice s1 s2 s3, .slice t1 t2 t3] 56)).alloc (.cells #[.int .i64 q.s, .int .i64 q.o, .int .i64 q.l, .int .i64 q.p, .int .i64 q.m] 32)).alloc (.cells #[.int .i64 0, .int .i64 0, .int .i64 0, .int .i64 0, .int .i64 0] 32))
 have H := hH ((((hw.newB #[.int .i64 x.m, .int .i64 x.n, .int .i64 x.p, .slice s1 s2 s3, .slice t1 t2 t3] 56 (b := w.heap.size) rfl).newB #[.int .i64 q.s, .int .i64 q.o, .int .i64 q.l, .int .i64 q.p, .int .i64 q.m] 32 (b := w.heap.size + 1) (by simp)).newB #[.int .i64 0, .int .i64 0, .int .i64 0, .int .i64 0, .int .i64 0] 32 (b := w.heap.size + 1 + 1) (by simp)))
 clear hres hx hg hc hC hw
 simp only [Rc.cells, slv]
 go_enter Tryz.func180, Tryz.ntmps180
 go_upto_region 1 with (fail)
 have hs1 : (w.alloc (.cells #[.int .i64 x.m, .int .i64 x.n, .int .i64 x.p, .slice s1 s2 s3, .slice t1 t2 t3] 56)).heap.size = w.heap.size + 1 := by simp
 have hs2 : ((w.alloc (.cells #[.int .i64 x.m, .int .i64 x.n, .int .i64 x.p, .slice s1 s2 s3, .slice t1 t2 t3] 56)).alloc (.cells #[.int .i64 q.s, .int .i64 q.o, .int .i64 q.l, .int .i64 q.p, .int .i64 q.m] 32)).heap.size = w.heap.size + 1 + 1 := by simp
 try rw [hs2]
 try rw [hs1]
 generalize hz1 : (((w.alloc (.cells #[.int .i64 x.m, .int .i64 x.n, .int .i64 x.p, .slice s1 s2 s3, .slice t1 t2 t3] 56)).alloc (.cells #[.int .i64 q.s, .int .i64 q.o, .int .i64 q.l, .int .i64 q.p, .int .i64 q.m] 32)).alloc (.cells #[.int .i64 0, .int .i64 0, .int .i64 0, .int .i64 0, .int .i64 0] 32)) = w1 at *
 clear hz1 hs1 hs2
 obtain ⟨b4, hb4⟩ : ∃ k, k = w.heap.size := ⟨_, rfl⟩
 rw [← hb4] at H ⊢
 obtain ⟨b5, hb5⟩ : ∃ k, k = b4 + 1 := ⟨_, rfl⟩
 rw [← hb5] at H ⊢
 obtain ⟨b6, hb6⟩ : ∃ k, k = b5 + 1 := ⟨_, rfl⟩
 rw [← hb6] at H ⊢
 have hle5 : w.heap.size ≤ b5 := by omega
 have hle6 : w.heap.size ≤ b6 := by omega
 have hn56 : b5 ≠ b6 := by omega
 have hn65 : b6 ≠ b5 := by omega
 clear hb4 hb5 hb6
 have HO := hH hO
 clear hO
 obtain ⟨r0, r1, r2, r3, r4⟩ := own5 (H.out.boxi 2 rfl)
 go_wp2_with fail
 refine (rec_next_any x (s1, s2, s3) (t1, t2, t3) _ (H.out.fact _ HX.out).1).mono ?_
 rintro en w2 ⟨rfl, hO⟩
 have H2 := hH (H.out.keep0 hO)
 have HO2 := hH (HO.out.trans' hO)
 clear hO H HO r0 r1 r2 r3 r4
 have bC := H2.out.box (mc _ (mc _ (mc _ HCC.out)))
 have g1 := bC.cellv 1
 have lC := bC.lt
 obtain ⟨q0, q1, q2, q3, q4⟩ := own5 (H2.out.boxi 1 rfl)
 have y0 := (H2.out.boxi 1 rfl).frozen 0
 have y1 := (H2.out.boxi 1 rfl).frozen 1
 have l5 := (H2.out.boxi 1 rfl).lt
 have b6 := H2.out.boxi 0 rfl
 have z0 := b6.frozen 0
 have z1 := b6.frozen 1
 have z2 := b6.frozen 2
 have z3 := b6.frozen 3
 have z4 := b6.frozen 4
 have l6 := b6.lt
 obtain ⟨k0, k1, k2, k3, k4⟩ := own5 b6
 clear bC
 clear b6
 cases hnx : nextOf x with
 | none =>
  have HON := hH (onP_none (c := cf) (q := q) hnx)
  simp only [Option.getD_none, Option.isSome_none]
  clear hnx hn
  go_wp2
  (try simp only [Exit.inBlock, Exit.then])
  refine bodyPost_ret (v := .tuple #[.agg #[.int .i64 q.s, .int .i64 q.o, .int .i64 q.l, .int .i64 q.p, .int .i64 q.m], .bool false]) ?_ rfl ⟨?_, ?_⟩
  ·simp only [results, HRES.out]
   go_simp
  ·rw [HON.out]
   try rfl
  exact (((((HO2.out.set (.inr hle6) _).set (.inr hle6) _).set (.inr hle6) _).set (.inr hle6) _).set (.inr hle6) _)
 | some v =>
  obtain ⟨hv0, hv1⟩ := hn v hnx
  simp only [Option.getD_some, Option.isSome_some]
  have hss : 8 ≤ cf.s ∧ cf.s ≤ 32 := HC.out.2.1
  go_wp2_with fail
  refine (geom_has_any gb cf.b cf.s cf.l v _ (H2.out.fact _ HGE.out) HC.out).mono ?_
  rintro en w3 ⟨rfl, rfl⟩
  by_cases hv : v ≤ cf.s - 1
  ·have hd : decide (0 ≤ v ∧ v ≤ cf.s - 1) = true := decide_eq_true ⟨hv0, hv⟩
   have HON := hH (onP_some (c := cf) (q := q) hnx hv)
   rw [hd]
   clear hnx hn hd
   go_wp2
   (try simp only [Exit.inBlock, Exit.then])
   refine bodyPost_ret (v := .tuple #[.agg #[.int .i64 v, .int .i64 0, .int .i64 q.l, .int .i64 q.p, .int .i64 q.m], .bool true]) ?_ rfl ⟨?_, ?_⟩
   ·simp only [results, HRES.out]
    go_simp
   ·rw [HON.out]
    try rfl
   exact (((((((HO2.out.set (.inr hle5) _).set (.inr hle5) _).set (.inr hle6) _).set (.inr hle6) _).set (.inr hle6) _).set (.inr hle6) _).set (.inr hle6) _)
  have hd : decide (0 ≤ v ∧ v ≤ cf.s - 1) = false := decide_eq_false (fun h => hv h.2)
  have HON := hH (onP_far (c := cf) (q := q) hnx hv)
  rw [hd]
  clear hnx hn hd
  go_wp2
  (try simp only [Exit.inBlock, Exit.then])
  refine bodyPost_ret (v := .tuple #[.agg #[.int .i64 q.s, .int .i64 q.o, .int .i64 q.l, .int .i64 q.p, .int .i64 q.m], .bool false]) ?_ rfl ⟨?_, ?_⟩
  ·simp only [results, HRES.out]
   go_simp
  ·rw [HON.out]
   try rfl
  exact (((((HO2.out.set (.inr hle6) _).set (.inr hle6) _).set (.inr hle6) _).set (.inr hle6) _).set (.inr hle6) _)
end Go.Proofs.YtgcfdjcpcclcjaaGreat
namespace Go.Kn
open Go Go.RowKit
/-- a mark behind a range over a function -/
def mkD (D : Nat) : Deferred := { target := .collected D, args := #[] }
def Marks (B : Nat) (Ds : List Nat) (W : World) : Prop := (∀ D ∈ Ds, B ≤ D ∧ W.heap[D]? = some (.deferred (some []))) ∧ Ds.Nodup
theorem marks_many {F : Fence} {n : Nat} {P : Program} {fn : Func} {tmps : Array Value} {R : Ending → World → Prop} {B : Nat} (Inv : World → Prop) (hput : ∀ (W : World) D, Inv W → B ≤ D → W.heap[D]? = some (.deferred (some [])) → Inv (W.putObj D (.deferred none)))
  (hfin : ∀ W, Inv W → ∃ v, (results fn tmps).run P W = .ok v W ∧ R (.returned v) W) : ∀ (Ds : List Nat) (W : World), Inv W → Marks B Ds W → LeavesInM F n P fn tmps R (Ds.map mkD) .returning W
 | [], W, h, _ => by
  obtain ⟨v, h1, h2⟩ := hfin W h
  exact ⟨v, h1, h2⟩
 | D :: Ds, W, h, hm => by
  obtain ⟨h1, h2⟩ := hm
  obtain ⟨hD, hK⟩ := h1 D List.mem_cons_self
  obtain ⟨hn, h2⟩ := List.nodup_cons.1 h2
  refine ⟨by simp, .inl ⟨D, _, rfl, run_takeDeferred hK, marks_many Inv hput hfin Ds _ (hput _ _ h hD hK) ⟨fun E hE => ?_, h2⟩⟩⟩
  obtain ⟨g1, g2⟩ := h1 E (mc _ hE)
  exact ⟨g1, (World.putObj_heap_other (fun e => hn (by rw [← e]; exact hE))).trans g2⟩
theorem Marks.kb {B C : Nat} {Ds : List Nat} {X Y : World} (h : Marks B Ds X) (hk : Kb C X Y) (hC : ∀ D ∈ Ds, D < C) : Marks B Ds Y := ⟨fun D hD => ⟨(h.1 D hD).1, hk.keep D _ (hC D hD) (h.1 D hD).2 rfl⟩, h.2⟩
theorem Marks.kf {B : Nat} {Ds : List Nat} {X Y : World} (h : Marks B Ds X) (hk : KeepsFrom B X Y) : Marks B Ds Y := ⟨fun D hD => ⟨(h.1 D hD).1, hk.same D _ (h.1 D hD).1 (h.1 D hD).2 rfl⟩, h.2⟩
theorem Marks.lt {B : Nat} {Ds : List Nat} {X : World} (h : Marks B Ds X) : ∀ D ∈ Ds, D < X.heap.size := fun D hD => lt_of_obj (h.1 D hD).2
theorem Marks.cons {B D : Nat} {Ds : List Nat} {X : World} (h : Marks B Ds X) (hB : B ≤ D) (hD : ∀ E ∈ Ds, E < D) (hK : X.heap[D]? = some (.deferred (some []))) : Marks B (D :: Ds) X :=
 ⟨fun E hE => (List.mem_cons.1 hE).elim (fun e => by rw [e]; exact ⟨hB, hK⟩) (h.1 E), List.nodup_cons.2 ⟨fun hm => Nat.lt_irrefl _ (hD D hm), h.2⟩⟩
def postM (R : Exit → Act → World → Prop) : Exit → Act → World → Prop
 | .normal, a, w => R .normal a w
 | .ret, a, w => R .ret a w
 | _, _, _ => False
theorem callsIn_of_wp_post {n : Nat} {P : Program} {f : FuncId} {fn : Func} {c : Code} {args : Array Value} {w : World} {R : Ending → World → Prop} (hf : P.funcs[f]? = some fn) (hb : fn.body = some c)
  (h : c.wpIn Fence.wide n P (postM (bodyPostM Fence.wide n P fn R)) { tmps := args ++ Array.replicate (fn.ntmps - args.size) undef, defers := [] } w) : CallsIn Fence.wide n P f args w R := by
 refine callsIn_of_wp_marks hf hb trivial (wpIn_mono h ?_) rfl
 intro e a w h
 cases e <;> first | exact h | exact h.elim
theorem not_letsOut_then {K : Act → World → Prop} {Q : Exit → Act → World → Prop} (h : ¬ LetsOut Q) : ¬ LetsOut (Exit.then K Q) := fun ⟨a, w, hq⟩ => h ⟨a, w, hq⟩
theorem cons_of {n : Nat} {us : List Value} (h : us.length = n + 1) : ∃ x t, us = x :: t ∧ t.length = n := by
 cases us with
 | nil => simp at h
 | cons x t => exact ⟨x, t, rfl, by simpa using h⟩
theorem all62 {P : List Value → Prop} (h : ∀ u4 u5 u6 u7 u8 u9 u10 u11 u12 u13 u14 u15 u16 u17 u18 u19 u20 u21 u22 u23 u24 u25 u26 u27 u28 u29 u30 u31 u32 u33 u34 u35 u36 u37 u38 u39 u40 u41 u42 u43 u44 u45 u46 u47 u48 u49 u50 u51 u52 u53 u54 u55 u56 u57 u58 u59 u60 u61 u62 u63 u64 u65 : Value, P (u4 :: u5 :: u6 :: u7 :: u8 :: u9 :: u10 :: u11 :: u12 :: u13 :: u14 :: u15 :: u16 :: u17 :: u18 :: u19 :: u20 :: u21 :: u22 :: u23 :: u24 :: u25 :: u26 :: u27 :: u28 :: u29 :: u30 :: u31 :: u32 :: u33 :: u34 :: u35 :: u36 :: u37 :: u38 :: u39 :: u40 :: u41 :: u42 :: u43 :: u44 :: u45 :: u46 :: u47 :: u48 :: u49 :: u50 :: u51 :: u52 :: u53 :: u54 :: u55 :: u56 :: u57 :: u58 :: u59 :: u60 :: u61 :: u62 :: u63 :: u64 :: u65 :: [])) : ∀ us : List Value, us.length = 62 → P us := by
 intro t3 h3
 obtain ⟨u4, t4, e4, h4⟩ := cons_of h3
 obtain ⟨u5, t5, e5, h5⟩ := cons_of h4
 obtain ⟨u6, t6, e6, h6⟩ := cons_of h5
 obtain ⟨u7, t7, e7, h7⟩ := cons_of h6
 obtain ⟨u8, t8, e8, h8⟩ := cons_of h7
 obtain ⟨u9, t9, e9, h9⟩ := cons_of h8
 obtain ⟨u10, t10, e10, h10⟩ := cons_of h9
 obtain ⟨u11, t11, e11, h11⟩ := cons_of h10
 obtain ⟨u12, t12, e12, h12⟩ := cons_of h11
 obtain ⟨u13, t13, e13, h13⟩ := cons_of h12
 obtain ⟨u14, t14, e14, h14⟩ := cons_of h13
 obtain ⟨u15, t15, e15, h15⟩ := cons_of h14
 obtain ⟨u16, t16, e16, h16⟩ := cons_of h15
 obtain ⟨u17, t17, e17, h17⟩ := cons_of h16
 obtain ⟨u18, t18, e18, h18⟩ := cons_of h17
 obtain ⟨u19, t19, e19, h19⟩ := cons_of h18
 obtain ⟨u20, t20, e20, h20⟩ := cons_of h19
 obtain ⟨u21, t21, e21, h21⟩ := cons_of h20
 obtain ⟨u22, t22, e22, h22⟩ := cons_of h21
 obtain ⟨u23, t23, e23, h23⟩ := cons_of h22
 obtain ⟨u24, t24, e24, h24⟩ := cons_of h23
 obtain ⟨u25, t25, e25, h25⟩ := cons_of h24
 obtain ⟨u26, t26, e26, h26⟩ := cons_of h25
 obtain ⟨u27, t27, e27, h27⟩ := cons_of h26
 obtain ⟨u28, t28, e28, h28⟩ := cons_of h27
 obtain ⟨u29, t29, e29, h29⟩ := cons_of h28
 obtain ⟨u30, t30, e30, h30⟩ := cons_of h29
 obtain ⟨u31, t31, e31, h31⟩ := cons_of h30
 obtain ⟨u32, t32, e32, h32⟩ := cons_of h31
 obtain ⟨u33, t33, e33, h33⟩ := cons_of h32
 obtain ⟨u34, t34, e34, h34⟩ := cons_of h33
 obtain ⟨u35, t35, e35, h35⟩ := cons_of h34
 obtain ⟨u36, t36, e36, h36⟩ := cons_of h35
 obtain ⟨u37, t37, e37, h37⟩ := cons_of h36
 obtain ⟨u38, t38, e38, h38⟩ := cons_of h37
 obtain ⟨u39, t39, e39, h39⟩ := cons_of h38
 obtain ⟨u40, t40, e40, h40⟩ := cons_of h39
 obtain ⟨u41, t41, e41, h41⟩ := cons_of h40
 obtain ⟨u42, t42, e42, h42⟩ := cons_of h41
 obtain ⟨u43, t43, e43, h43⟩ := cons_of h42
 obtain ⟨u44, t44, e44, h44⟩ := cons_of h43
 obtain ⟨u45, t45, e45, h45⟩ := cons_of h44
 obtain ⟨u46, t46, e46, h46⟩ := cons_of h45
 obtain ⟨u47, t47, e47, h47⟩ := cons_of h46
 obtain ⟨u48, t48, e48, h48⟩ := cons_of h47
 obtain ⟨u49, t49, e49, h49⟩ := cons_of h48
 obtain ⟨u50, t50, e50, h50⟩ := cons_of h49
 obtain ⟨u51, t51, e51, h51⟩ := cons_of h50
 obtain ⟨u52, t52, e52, h52⟩ := cons_of h51
 obtain ⟨u53, t53, e53, h53⟩ := cons_of h52
 obtain ⟨u54, t54, e54, h54⟩ := cons_of h53
 obtain ⟨u55, t55, e55, h55⟩ := cons_of h54
 obtain ⟨u56, t56, e56, h56⟩ := cons_of h55
 obtain ⟨u57, t57, e57, h57⟩ := cons_of h56
 obtain ⟨u58, t58, e58, h58⟩ := cons_of h57
 obtain ⟨u59, t59, e59, h59⟩ := cons_of h58
 obtain ⟨u60, t60, e60, h60⟩ := cons_of h59
 obtain ⟨u61, t61, e61, h61⟩ := cons_of h60
 obtain ⟨u62, t62, e62, h62⟩ := cons_of h61
 obtain ⟨u63, t63, e63, h63⟩ := cons_of h62
 obtain ⟨u64, t64, e64, h64⟩ := cons_of h63
 obtain ⟨u65, t65, e65, h65⟩ := cons_of h64
 obtain rfl := List.length_eq_zero_iff.1 h65
 rw [e4, e5, e6, e7, e8, e9, e10, e11, e12, e13, e14, e15, e16, e17, e18, e19, e20, e21, e22, e23, e24, e25, e26, e27, e28, e29, e30, e31, e32, e33, e34, e35, e36, e37, e38, e39, e40, e41, e42, e43, e44, e45, e46, e47, e48, e49, e50, e51, e52, e53, e54, e55, e56, e57, e58, e59, e60, e61, e62, e63, e64, e65]
 exact h u4 u5 u6 u7 u8 u9 u10 u11 u12 u13 u14 u15 u16 u17 u18 u19 u20 u21 u22 u23 u24 u25 u26 u27 u28 u29 u30 u31 u32 u33 u34 u35 u36 u37 u38 u39 u40 u41 u42 u43 u44 u45 u46 u47 u48 u49 u50 u51 u52 u53 u54 u55 u56 u57 u58 u59 u60 u61 u62 u63 u64 u65
theorem not_letsOut_postW {α : Type} {B : Nat} {w0 : World} {φ : Fr3} {J : Option Code → List α → Fr3 → World → Prop} {xs : List α} {W : World} {id : Nat} : ¬ LetsOut (Exit.inBlock id (postW B w0 φ J xs W)) := by
 rintro ⟨a, w, h⟩
 exact h
theorem perm_any {α : Type} {A B : List α} (h : ∀ (c : α → Nat), (A.map c).sum = (B.map c).sum) : A.Perm B := by
 classical
 rw [List.perm_iff_count]
 intro a
 have h1 := h (fun x => if x = a then 1 else 0)
 have e : ∀ l : List α, (l.map fun x => if x = a then 1 else 0).sum = l.count a := by
  intro l
  induction l with
  | nil => rfl
  | cons x l ih => rw [List.map_cons, List.sum_cons, ih, List.count_cons, Nat.add_comm]; simp
 rw [e, e] at h1
 exact h1
/-- what the loop has behind some records of a segment: where it goes on, and whether in another one -/
def OnSt (d : Dk) (cf : Cf) (pre : List Fnd) (e : Ps) (more : Bool) : Prop :=
 (pre = [] ∧ more = false) ∨ ∃ pre' x q', pre = pre' ++ [x] ∧ follow d cf x.p = (some (x.r, q'), 0) ∧ e = (onP cf x.r q').1 ∧ more = (onP cf x.r q').2
theorem OnSt.done {d : Dk} {cf : Cf} {xs : List Fnd} {q e : Ps} {more : Bool} (h : OnSt d cf xs e more) (hx : xs.map Fnd.pr = (scanR d cf false q).1) :
  (more = true ∧ ∃ v, nextIn cf (scanR d cf false q).1 = some v ∧ e = turnP (scanR d cf false q).2.1 v) ∨ (more = false ∧ nextIn cf (scanR d cf false q).1 = none) := by
 rcases h with ⟨rfl, rfl⟩ | ⟨pre', x, q', rfl, hf, rfl, rfl⟩
 ·exact .inr ⟨rfl, by rw [← hx]; rfl⟩
 rw [List.map_append] at hx
 obtain ⟨g1, g2⟩ := scanR_last hx.symm
 have g3 : (some (x.r, q'), (0 : Int)) = (some (x.r, (scanR d cf false q).2.1), 0) := hf.symm.trans g1
 injection g3 with g3
 injection g3 with g3
 injection g3 with _ g3
 rw [← g3, ← hx]
 show (_ ∧ ∃ v, nextIn cf (pre'.map Fnd.pr ++ [x.pr]) = some v ∧ _) ∨ (_ ∧ nextIn cf (pre'.map Fnd.pr ++ [x.pr]) = none)
 rw [nextIn_snoc]
 show (_ ∧ ∃ v, (nextOf x.r).filter _ = some v ∧ _) ∨ (_ ∧ (nextOf x.r).filter _ = none)
 unfold onP
 cases hn : (nextOf x.r).filter fun v => decide (v ≤ cf.s - 1) with
 | none => exact .inr ⟨rfl, rfl⟩
 | some v => exact .inl ⟨rfl, v, rfl, rfl⟩
theorem OnSt.snoc {d : Dk} {cf : Cf} {pre : List Fnd} {x : Fnd} {e q : Ps} {more : Bool} (h : OnSt d cf (pre ++ [x]) e more) (hf : follow d cf x.p = (some (x.r, q), 0)) : e = (onP cf x.r q).1 ∧ more = (onP cf x.r q).2 := by
 rcases h with ⟨h, _⟩ | ⟨pre', x', q', h, hf', he, hm⟩
 ·simp at h
 obtain ⟨_, h⟩ := List.append_inj' h rfl
 injection h with h
 subst h
 rw [hf] at hf'
 injection hf' with h1
 injection h1 with h1
 injection h1 with _ h1
 subst h1
 exact ⟨he, hm⟩
theorem scan_prefix_chain (d : Dk) (c : Cf) (k : Nat) (p : Ps) : (scanR d c false p).1 <+: (chainG d c (k + 1) p).1 := by
 cases hn : nextIn c (scanR d c false p).1 with
 | none => rw [chainG_none hn]; exact List.prefix_refl _
 | some v => rw [chainG_some hn]; exact List.prefix_append _ _
end Go.Kn
namespace Go.Proofs.YtgcfdjcpcclcjaaGreat
open Go Go.RowKit Go.Kn Go.Shelf
attribute [local go_sem] Oper.semAt_some
section
variable (C D gb : Nat) (d : Dk) (cf : Cf) (p : Ps) (k0 : Nat) (L : List (Nat × List Value)) (G : List Gs) (F : List (World → Prop))
def ChPre (pre : List Fnd) (x : Fnd) (φ : Fr3) : Prop := ∃ (X : List (Nat × List Value)) (q : Ps) (fs : List (World → Prop)), φ = ⟨(C, CB D gb p (onP cf x.r q).1 0) :: (X ++ L), G, fs ++ F⟩ ∧ (∀ y ∈ pre ++ [x], y.fct ∈ fs) ∧ (pre ++ [x]).map Fnd.pr <+: (chainG d cf k0 p).1 ∧ Kn.follow d cf x.p = (some (x.r, q), 0)
def ChFin (xs : List Fnd) (φ : Fr3) : Prop := ∃ (X : List (Nat × List Value)) (fs : List (World → Prop)), φ = ⟨(C, CB D gb p (chainG d cf k0 p).2.1 (chainG d cf k0 p).2.2) :: (X ++ L), G, fs ++ F⟩ ∧ (∀ y ∈ xs, y.fct ∈ fs) ∧ xs.map Fnd.pr = (chainG d cf k0 p).1
def ChFix (pre : List Fnd) (φ : Fr3) : Prop := ∃ (X : List (Nat × List Value)) (q : Ps) (fs : List (World → Prop)) (pre' : List Fnd) (x : Fnd), φ = ⟨(C, CB D gb p (onP cf x.r q).1 0) :: (X ++ L), G, fs ++ F⟩ ∧ (∀ y ∈ pre, y.fct ∈ fs) ∧ pre.map Fnd.pr <+: (chainG d cf k0 p).1 ∧ pre = pre' ++ [x] ∧ Kn.follow d cf x.p = (some (x.r, q), 0)
end
/-- what the range over a segment's records keeps -/
def ChC (C D gb : Nat) (p e : Ps) (f2 f3 f4 S l : Nat) (more : Bool) (co : Fr3) : Fr3 := ⟨(f4, [.pointer (some ⟨S, 0, none⟩)]) :: (C, CB D gb p e 0) :: (f3, [.bool more]) :: (f2, [.func (.yield l) #[] #[]]) :: co.L, co.G, co.F⟩
def ChJ (J : Option Code → List Fnd → Fr3 → World → Prop) (C D gb : Nat) (d : Dk) (cf : Cf) (p : Ps) (f2 f3 f4 S l : Nat) (told : List Fnd) (B : Nat) (Ds : List Nat) : Option Code → List Fnd → Fr3 → World → Prop
 | none, pre, c, W => ∃ (co : Fr3) (e : Ps) (more : Bool), c = ChC C D gb p e f2 f3 f4 S l more co ∧ J none (told ++ pre) co W ∧ Marks B Ds W ∧ OnSt d cf pre e more
 | some cd, pre, c, W => ∃ (co : Fr3) (e : Ps) (more : Bool) (cd' : Code), c = ChC C D gb p e f2 f3 f4 S l more co ∧ cd = .ret ∧ J (some cd') (told ++ pre) co W ∧ Marks B Ds W ∧ OnSt d cf pre e more
theorem chrec1_seq (w0 W : World) (C b1 gb : Nat) (pd : PD) (d : Dk) (cf : Cf) (p : Ps) (e : Ps) (er : Int) (L : List (Nat × List Value)) (G : List Gs) (F : List (World → Prop)) (n : Nat) (hn : 4 ≤ n) (k0 N : Nat)
  (hd : DkIn pd d L) (hb1 : (b1, [.pointer (some ⟨C, 0, none⟩)]) ∈ L) (hg : (fun W => GeoAt W gb cf.b cf.s cf.l) ∈ F) (hc : cf.Ok) (hk : ChEnds d cf k0 p) (hN : (chainG d cf k0 p).1.length ≤ N) :
  SeqW Fence.wide n Tryz.prog 179 #[.pointer (some ⟨b1, 0, none⟩)] Fnd.enc (ChPre C pd.D gb d cf p k0 L G F) (ChFin C pd.D gb d cf p k0 L G F) (ChFix C pd.D gb d cf p k0 L G F) N w0 W ⟨(C, CB pd.D gb p e er) :: L, G, F⟩ := by
 intro l J c0 hJc hY hJ0 hA
 have HJC := hH hJc
 have HYY := hH hY
 clear hJc hY
 have h1 : 1 ≤ n := by omega
 have hA' : Wc w0 W ((C, CB pd.D gb p e er) :: (L ++ c0.L)) (G ++ c0.G) (F ++ c0.F) := hA
 have HB1 := hH hb1
 have HDK := hH hd
 have HG := hH hg
 have HC := hH hc
 have HKE := hH hk
 have HN := hH hN
 have HW1 := hH ((Wk.start hA').newB #[.func (.yield l) #[] #[]] 221 (b := W.heap.size) rfl)
 have hws := hA'.only.size
 clear hA hA' hd hg hb1 hk hN hc
 refine callsIn_of_wp_post Tryz.func179 rfl ?_
 simp only [Tryz.ntmps179, List.size_toArray, List.length_cons, List.length_nil, Nat.reduceAdd, Nat.reduceSub, Array.replicate_succ, Array.replicate_zero, List.push_toArray, List.append_toArray, List.nil_append, List.cons_append]
 have c1 : (W.alloc (.cells #[.func (.yield l) #[] #[]] 221)).cell? ⟨b1, 0, none⟩ = some (.pointer (some ⟨C, 0, none⟩)) := own1 (HW1.out.own _ (mc _ (mc _ (List.mem_append_left _ HB1.out))))
 gi_upto_region 2 with (fail)
 generalize hz1 : W.alloc (.cells #[.func (.yield l) #[] #[]] 221) = w1 at *
 obtain ⟨f2, hf2⟩ : ∃ k, k = W.heap.size := ⟨_, rfl⟩
 have hf2' : W.heap.size ≤ f2 := by omega
 rw [← hf2] at HW1 ⊢
 clear hz1 hf2 c1
 have HY := hH HW1.out.drew
 clear HW1
 refine wpIn_wide.2 (wp_region_held_drew (S := (fun w' => w'.cell? ⟨b1, 0, none⟩ = some (.pointer (some ⟨C, 0, none⟩)) ∧ w'.cell? ⟨C, 2, none⟩ = some (.int .i64 p.s) ∧ w'.cell? ⟨C, 3, none⟩ = some (.int .i64 p.o) ∧ w'.cell? ⟨C, 4, none⟩ = some (.int .i64 p.l) ∧ w'.cell? ⟨C, 5, none⟩ = some (.int .i64 p.p) ∧ w'.cell? ⟨C, 6, none⟩ = some (.int .i64 p.m))) (by kernel_rfl) ⟨own1 (HY.out.own _ (mc _ (mc _ (List.mem_append_left _ HB1.out)))), (HY.out.boxi 1 rfl).cellv 2, (HY.out.boxi 1 rfl).cellv 3, (HY.out.boxi 1 rfl).cellv 4, (HY.out.boxi 1 rfl).cellv 5, (HY.out.boxi 1 rfl).cellv 6⟩ (fun hSw0 => ?_))
 generalize w1.drew = wz at *
 refine tS 0 9 (hQ := fun _ _ _ h => h.elim) (v := (.pointer (some ⟨C, 0, none⟩))) (hy := fun w hSw => by
  obtain ⟨q0, q1, q2, q3, q4, q5⟩ := hSw
  go_simp) ?_
 refine tS 1 10 (hQ := fun _ _ _ h => h.elim) (v := (.pointer (some ⟨C, 0, none⟩))) (hy := fun w hSw => by
  obtain ⟨q0, q1, q2, q3, q4, q5⟩ := hSw
  go_simp) ?_
 refine tS 2 11 (hQ := fun _ _ _ h => h.elim) (v := (.pointer (some ⟨C, 0, none⟩))) (hy := fun w hSw => by
  obtain ⟨q0, q1, q2, q3, q4, q5⟩ := hSw
  go_simp) ?_
 refine tS 3 12 (hQ := fun _ _ _ h => h.elim) ?_
 refine tS 4 13 (hQ := fun _ _ _ h => h.elim) ?_
 refine tS 5 14 (hQ := fun _ _ _ h => h.elim) (v := (.agg #[.int .i64 p.s, .int .i64 p.o, .int .i64 p.l, .int .i64 p.p, .int .i64 p.m])) (hy := fun w hSw => by
  obtain ⟨q0, q1, q2, q3, q4, q5⟩ := hSw
  go_simp) ?_
 refine tS 6 15 (hQ := fun _ _ _ h => h.elim) ?_
 refine tS 7 16 (hQ := fun _ _ _ h => h.elim) ?_
 refine Kn.takeR 8 ⟨none, _, _, _, _, _⟩ fun K hK => ?_
 have bC := HY.out.boxi 1 rfl
 have c7 := bC.cellv 7
 have c8 := bC.cellv 8
 have c9 := bC.cellv 9
 have c10 := bC.cellv 10
 have c11 := bC.cellv 11
 have z7 := bC.frozen 7
 have z8 := bC.frozen 8
 have z9 := bC.frozen 9
 have z10 := bC.frozen 10
 have z11 := bC.frozen 11
 have lC := bC.lt
 go_simp
 have HY1 : Hid (Wk w0 W _ ((f2, [.func (.yield l) #[] #[]]) :: (C, CB pd.D gb p p er) :: (L ++ c0.L)) (G ++ c0.G) (F ++ c0.F)) := hH (((((HY.out.put 1 rfl 7 (.int .i64 p.s)).put 1 rfl 8 (.int .i64 p.o)).put 1 rfl 9 (.int .i64 p.l)).put 1 rfl 10 (.int .i64 p.p)).put 1 rfl 11 (.int .i64 p.m))
 clear c7 z7 c8 z8 c9 z9 c10 z10 c11 z11 bC lC HY
 obtain ⟨wy, hgn⟩ : ∃ x, x = (World.setCell (World.setCell (World.setCell (World.setCell (World.setCell wz ⟨C, 7, none⟩ (.int .i64 p.s)) ⟨C, 8, none⟩ (.int .i64 p.o)) ⟨C, 9, none⟩ (.int .i64 p.l)) ⟨C, 10, none⟩ (.int .i64 p.p)) ⟨C, 11, none⟩ (.int .i64 p.m)) := ⟨_, rfl⟩
 rw [← hgn] at HY1 ⊢
 clear hgn
 refine hK.out _ _ ⟨own1 (HY1.out.own _ (mc _ (mc _ (List.mem_append_left _ HB1.out)))), (HY1.out.boxi 1 rfl).cellv 2, (HY1.out.boxi 1 rfl).cellv 3, (HY1.out.boxi 1 rfl).cellv 4, (HY1.out.boxi 1 rfl).cellv 5, (HY1.out.boxi 1 rfl).cellv 6⟩ (fun hSn => ?_)
 clear hK K hSw0
 have hSw0 := hSn
 clear hSn
 refine tS 9 17 (hQ := fun _ _ _ h => h.elim) ?_
 refine tS 10 18 (hQ := fun _ _ _ h => h.elim) ?_
 refine Kn.takeR 11 ⟨none, _, _, _, _, _⟩ fun K hK => ?_
 have bC := HY1.out.boxi 1 rfl
 have c12 := bC.cellv 12
 have z12 := bC.frozen 12
 have lC := bC.lt
 go_simp
 have HY2 : Hid (Wk w0 W _ ((f2, [.func (.yield l) #[] #[]]) :: (C, CB pd.D gb p p 0) :: (L ++ c0.L)) (G ++ c0.G) (F ++ c0.F)) := hH (HY1.out.put 1 rfl 12 (.int .i64 0))
 clear c12 z12 bC lC HY1
 obtain ⟨wx, hgn⟩ : ∃ x, x = (World.setCell wy ⟨C, 12, none⟩ (.int .i64 0)) := ⟨_, rfl⟩
 rw [← hgn] at HY2 ⊢
 clear hgn
 refine hK.out _ _ ⟨own1 (HY2.out.own _ (mc _ (mc _ (List.mem_append_left _ HB1.out)))), (HY2.out.boxi 1 rfl).cellv 2, (HY2.out.boxi 1 rfl).cellv 3, (HY2.out.boxi 1 rfl).cellv 4, (HY2.out.boxi 1 rfl).cellv 5, (HY2.out.boxi 1 rfl).cellv 6⟩ (fun hSn => ?_)
 clear hK K hSw0
 have hSw0 := hSn
 clear hSn
 refine tD ?_ _
 clear hSw0
 have HY3 := hH (HY2.out.newB #[.bool true] 4 (b := wx.heap.size) rfl)
 gi_wp2_with fail
 generalize hz3 : wx.alloc (.cells #[.bool true] 4) = w3 at *
 generalize wx.heap.size = f3 at *
 clear hz3 HY2
 have HS0 : Hid (Wk w0 W w3 ((C, CB pd.D gb p p 0) :: (f3, [.bool true]) :: (f2, [.func (.yield l) #[] #[]]) :: (L ++ c0.L)) (G ++ c0.G) ([] ++ (F ++ c0.F))) := hH (HY3.out.perm (perm_any (fun c => by simp only [List.map_cons, List.map_append, List.sum_cons, List.sum_append, List.cons_append, List.map_nil, List.sum_nil] <;> omega)) (List.Perm.refl _))
 clear HY3
 have hJ3 : J none [] c0 w3 := HJC.out _ _ _ _ _ hJ0 HS0.out.kb
 refine wpIn_loop_ghost_k (fun (k : Nat) (a : Act) (wr : World) => ∃ (us : List Value) (f3 : Nat) (ds : List Deferred), us.length = 62 ∧ a = { tmps := (.func (.yield l) #[] #[] :: .pointer (some ⟨b1, 0, none⟩) :: .pointer (some ⟨f2, 0, none⟩) :: .pointer (some ⟨f3, 0, none⟩) :: us).toArray, defers := ds } ∧ (∃ (told : List Fnd) (c : Fr3) (fs : List (World → Prop)) (more : Bool) (q : Ps) (er : Int) (Ds : List Nat), ds = Ds.map mkD ∧ W.heap.size ≤ wr.heap.size ∧ Wc w0 wr ((C, CB pd.D gb p q er) :: (f3, [.bool more]) :: (f2, [.func (.yield l) #[] #[]]) :: (L ++ c.L)) (G ++ c.G) (fs ++ (F ++ c.F)) ∧ (∀ y ∈ told, y.fct ∈ fs) ∧ J none told c wr ∧ Marks W.heap.size Ds wr ∧
   ((more = true ∧ er = 0 ∧ ChEnds d cf k q ∧ chainG d cf k0 p = (told.map Fnd.pr ++ (chainG d cf k q).1, (chainG d cf k q).2)) ∨ (more = false ∧ chainG d cf k0 p = (told.map Fnd.pr, q, er))))) k0 ?start ?round
 case start =>
  refine ⟨_, f3, [], ?_, rfl, ⟨[], c0, [], true, p, 0, [], rfl, HS0.out.hs, HS0.out.toWc, by simp, hJ3, ⟨by simp, List.nodup_nil⟩, .inl ⟨rfl, rfl, HKE.out, by simp⟩⟩⟩
  rfl
 clear HS0 hJ3 hJ0
 rintro gk a wr ⟨us, f3, ds, hus, rfl, ⟨told, c, fs, more, q, er, Ds, rfl, hsz, hw, hfs, hJt, hmk, hst⟩⟩
 intro _ _ _ _
 revert us
 refine all62 ?_
 intro u4 u5 u6 u7 u8 u9 u10 u11 u12 u13 u14 u15 u16 u17 u18 u19 u20 u21 u22 u23 u24 u25 u26 u27 u28 u29 u30 u31 u32 u33 u34 u35 u36 u37 u38 u39 u40 u41 u42 u43 u44 u45 u46 u47 u48 u49 u50 u51 u52 u53 u54 u55 u56 u57 u58 u59 u60 u61 u62 u63 u64 u65
 rcases hst with ⟨rfl, rfl, hke, hsc⟩ | ⟨rfl, hsc⟩
 ·as_aux_lemma =>
   obtain ⟨k, rfl⟩ : ∃ k, gk = k + 1 := by
    cases gk with
    | zero => exact hke.elim
    | succ k => exact ⟨k, rfl⟩
   have HW := hH (Wk.start hw)
   have HKQ := hH hke
   have HSC := hH hsc
   have HFS := hH hfs
   have HMK := hH hmk
   have HJT := hH hJt
   clear hw hke hsc hfs hmk hJt
   have c3 := own1 (HW.out.boxi 1 rfl)
   gi_upto_region 5 with (fail)
   clear c3
   gi_cut [4] from 7 (fun s4 wy => ∃ f4 S : Nat, s4 = .pointer (some ⟨f4, 0, none⟩) ∧ Wk w0 wr wy ((f4, [.pointer (some ⟨S, 0, none⟩)]) :: (S, SB pd.D gb q false q 0) :: (C, CB pd.D gb p q 0) :: (f3, [.bool true]) :: (f2, [.func (.yield l) #[] #[]]) :: (L ++ c.L)) (G ++ c.G) (fs ++ (F ++ c.F)))
   case first =>
    as_aux_lemma =>
     have HY := hH HW.out.drew
     clear HW
     refine wpIn_wide.2 (wp_region_held_drew (S := (fun w' => w'.cell? ⟨b1, 0, none⟩ = some (.pointer (some ⟨C, 0, none⟩)) ∧ w'.cell? ⟨C, 0, none⟩ = some (.pointer (some ⟨pd.D, 0, none⟩)) ∧ w'.cell? ⟨C, 1, none⟩ = some (.pointer (some ⟨gb, 0, none⟩)) ∧ w'.cell? ⟨C, 7, none⟩ = some (.int .i64 q.s) ∧ w'.cell? ⟨C, 8, none⟩ = some (.int .i64 q.o) ∧ w'.cell? ⟨C, 9, none⟩ = some (.int .i64 q.l) ∧ w'.cell? ⟨C, 10, none⟩ = some (.int .i64 q.p) ∧ w'.cell? ⟨C, 11, none⟩ = some (.int .i64 q.m))) (by kernel_rfl) ⟨own1 (HY.out.own _ (mc _ (mc _ (mc _ (List.mem_append_left _ HB1.out))))), (HY.out.boxi 0 rfl).cellv 0, (HY.out.boxi 0 rfl).cellv 1, (HY.out.boxi 0 rfl).cellv 7, (HY.out.boxi 0 rfl).cellv 8, (HY.out.boxi 0 rfl).cellv 9, (HY.out.boxi 0 rfl).cellv 10, (HY.out.boxi 0 rfl).cellv 11⟩ (fun hSw0 => ?_))
     generalize wr.drew = wz at *
     refine tS 0 20 (hQ := fun _ _ _ h => h.elim) (v := (.pointer (some ⟨C, 0, none⟩))) (hy := fun w hSw => by
      obtain ⟨q0, q1, q2, q3, q4, q5, q6, q7⟩ := hSw
      go_simp) ?_
     refine tS 1 21 (hQ := fun _ _ _ h => h.elim) ?_
     refine tS 2 22 (hQ := fun _ _ _ h => h.elim) ?_
     refine tS 3 23 (hQ := fun _ _ _ h => h.elim) (v := (.pointer (some ⟨pd.D, 0, none⟩))) (hy := fun w hSw => by
      obtain ⟨q0, q1, q2, q3, q4, q5, q6, q7⟩ := hSw
      go_simp) ?_
     refine tS 4 24 (hQ := fun _ _ _ h => h.elim) (v := (.pointer (some ⟨C, 0, none⟩))) (hy := fun w hSw => by
      obtain ⟨q0, q1, q2, q3, q4, q5, q6, q7⟩ := hSw
      go_simp) ?_
     refine tS 5 25 (hQ := fun _ _ _ h => h.elim) ?_
     refine tS 6 26 (hQ := fun _ _ _ h => h.elim) ?_
     refine tS 7 27 (hQ := fun _ _ _ h => h.elim) (v := (.pointer (some ⟨gb, 0, none⟩))) (hy := fun w hSw => by
      obtain ⟨q0, q1, q2, q3, q4, q5, q6, q7⟩ := hSw
      go_simp) ?_
     refine tS 8 28 (hQ := fun _ _ _ h => h.elim) (v := (.pointer (some ⟨C, 0, none⟩))) (hy := fun w hSw => by
      obtain ⟨q0, q1, q2, q3, q4, q5, q6, q7⟩ := hSw
      go_simp) ?_
     refine tS 9 29 (hQ := fun _ _ _ h => h.elim) ?_
     refine tS 10 30 (hQ := fun _ _ _ h => h.elim) ?_
     refine tS 11 31 (hQ := fun _ _ _ h => h.elim) (v := (.agg #[.int .i64 q.s, .int .i64 q.o, .int .i64 q.l, .int .i64 q.p, .int .i64 q.m])) (hy := fun w hSw => by
      obtain ⟨q0, q1, q2, q3, q4, q5, q6, q7⟩ := hSw
      go_simp) ?_
     refine wpAnyH_ready (rs := [12, 13]) (by kernel_rfl) (by simp) ?_
     refine AllReadyH.cons (o := ⟨some 32, _, _, _, _, _⟩) rfl (fun K hK => ?_) ?_
     ·go_simp
      refine (scan_new_any w0 _ pd.D gb q _ _ _ HY.out).mono ?_
      rintro en wv ⟨S, rfl, hw9⟩
      have HYc := hH hw9
      clear hw9 HY
      refine hK.out _ _ ⟨own1 (HYc.out.own _ (mc _ (mc _ (mc _ (mc _ (List.mem_append_left _ HB1.out)))))), (HYc.out.boxi 1 rfl).cellv 0, (HYc.out.boxi 1 rfl).cellv 1, (HYc.out.boxi 1 rfl).cellv 7, (HYc.out.boxi 1 rfl).cellv 8, (HYc.out.boxi 1 rfl).cellv 9, (HYc.out.boxi 1 rfl).cellv 10, (HYc.out.boxi 1 rfl).cellv 11⟩ (fun hSn => ?_)
      clear hK K hSw0
      have hSw0 := hSn
      clear hSn
      refine tR 13 4 fun K hK => ?_
      go_simp
      have HYca := hH (HYc.out.newB #[.pointer none] 40 (b := wv.heap.size) rfl)
      clear HYc
      generalize hvb : wv.alloc (.cells #[.pointer none] 40) = wa at *
      generalize wv.heap.size = f4 at *
      clear hvb
      refine hK.out _ _ ⟨own1 (HYca.out.own _ (mc _ (mc _ (mc _ (mc _ (mc _ (List.mem_append_left _ HB1.out))))))), (HYca.out.boxi 2 rfl).cellv 0, (HYca.out.boxi 2 rfl).cellv 1, (HYca.out.boxi 2 rfl).cellv 7, (HYca.out.boxi 2 rfl).cellv 8, (HYca.out.boxi 2 rfl).cellv 9, (HYca.out.boxi 2 rfl).cellv 10, (HYca.out.boxi 2 rfl).cellv 11⟩ (fun hSn => ?_)
      clear hK K hSw0
      have hSw0 := hSn
      clear hSn
      refine Kn.takeR 14 ⟨none, _, _, _, _, _⟩ fun K hK => ?_
      have b4 := HYca.out.boxi 0 rfl
      have c4 := own1 b4
      have z4 := b4.frozen 0
      have l4 := b4.lt
      go_simp
      have HYcas := hH (HYca.out.put 0 rfl 0 (.pointer (some ⟨S, 0, none⟩)))
      simp only [List.set_cons_zero, List.set_cons_succ] at HYcas
      clear b4 c4 z4 l4 HYca
      generalize World.setCell wa ⟨f4, 0, none⟩ (.pointer (some ⟨S, 0, none⟩)) = ws at *
      refine hK.out _ _ ⟨own1 (HYcas.out.own _ (mc _ (mc _ (mc _ (mc _ (mc _ (List.mem_append_left _ HB1.out))))))), (HYcas.out.boxi 2 rfl).cellv 0, (HYcas.out.boxi 2 rfl).cellv 1, (HYcas.out.boxi 2 rfl).cellv 7, (HYcas.out.boxi 2 rfl).cellv 8, (HYcas.out.boxi 2 rfl).cellv 9, (HYcas.out.boxi 2 rfl).cellv 10, (HYcas.out.boxi 2 rfl).cellv 11⟩ (fun hSn => ?_)
      clear hK K hSw0
      have hSw0 := hSn
      clear hSn
      refine tD ?_ _
      clear hSw0
      gi_wp2
      gi_meet
      case rel => exact ⟨f4, S, rfl, HYcas.out.perm (perm_any (fun c => by simp only [List.map_cons, List.map_append, List.sum_cons, List.sum_append, List.cons_append, List.map_nil, List.sum_nil] <;> omega)) (List.Perm.refl _)⟩
     refine AllReadyH.cons (o := ⟨some 4, _, _, _, _, _⟩) rfl (fun K hK => ?_) ?_
     ·go_simp
      have HYa := hH (HY.out.newB #[.pointer none] 40 (b := wz.heap.size) rfl)
      clear HY
      generalize hvb : wz.alloc (.cells #[.pointer none] 40) = wa at *
      generalize wz.heap.size = f4 at *
      clear hvb
      refine hK.out _ _ ⟨own1 (HYa.out.own _ (mc _ (mc _ (mc _ (mc _ (List.mem_append_left _ HB1.out)))))), (HYa.out.boxi 1 rfl).cellv 0, (HYa.out.boxi 1 rfl).cellv 1, (HYa.out.boxi 1 rfl).cellv 7, (HYa.out.boxi 1 rfl).cellv 8, (HYa.out.boxi 1 rfl).cellv 9, (HYa.out.boxi 1 rfl).cellv 10, (HYa.out.boxi 1 rfl).cellv 11⟩ (fun hSn => ?_)
      clear hK K hSw0
      have hSw0 := hSn
      clear hSn
      refine tR 12 32 fun K hK => ?_
      go_simp
      refine (scan_new_any w0 _ pd.D gb q _ _ _ HYa.out).mono ?_
      rintro en wv ⟨S, rfl, hw9⟩
      have HYac := hH hw9
      clear hw9 HYa
      refine hK.out _ _ ⟨own1 (HYac.out.own _ (mc _ (mc _ (mc _ (mc _ (mc _ (List.mem_append_left _ HB1.out))))))), (HYac.out.boxi 2 rfl).cellv 0, (HYac.out.boxi 2 rfl).cellv 1, (HYac.out.boxi 2 rfl).cellv 7, (HYac.out.boxi 2 rfl).cellv 8, (HYac.out.boxi 2 rfl).cellv 9, (HYac.out.boxi 2 rfl).cellv 10, (HYac.out.boxi 2 rfl).cellv 11⟩ (fun hSn => ?_)
      clear hK K hSw0
      have hSw0 := hSn
      clear hSn
      refine Kn.takeR 14 ⟨none, _, _, _, _, _⟩ fun K hK => ?_
      have b4 := HYac.out.boxi 1 rfl
      have c4 := own1 b4
      have z4 := b4.frozen 0
      have l4 := b4.lt
      go_simp
      have HYacs := hH (HYac.out.put 1 rfl 0 (.pointer (some ⟨S, 0, none⟩)))
      simp only [List.set_cons_zero, List.set_cons_succ] at HYacs
      clear b4 c4 z4 l4 HYac
      generalize World.setCell wv ⟨f4, 0, none⟩ (.pointer (some ⟨S, 0, none⟩)) = ws at *
      refine hK.out _ _ ⟨own1 (HYacs.out.own _ (mc _ (mc _ (mc _ (mc _ (mc _ (List.mem_append_left _ HB1.out))))))), (HYacs.out.boxi 2 rfl).cellv 0, (HYacs.out.boxi 2 rfl).cellv 1, (HYacs.out.boxi 2 rfl).cellv 7, (HYacs.out.boxi 2 rfl).cellv 8, (HYacs.out.boxi 2 rfl).cellv 9, (HYacs.out.boxi 2 rfl).cellv 10, (HYacs.out.boxi 2 rfl).cellv 11⟩ (fun hSn => ?_)
      clear hK K hSw0
      have hSw0 := hSn
      clear hSn
      refine tD ?_ _
      clear hSw0
      gi_wp2
      gi_meet
      case rel => exact ⟨f4, S, rfl, HYacs.out.perm (perm_any (fun c => by simp only [List.map_cons, List.map_append, List.sum_cons, List.sum_append, List.cons_append, List.map_nil, List.sum_nil] <;> omega)) (List.Perm.refl _)⟩
     exact AllReadyH.nil
   clear HW
   obtain ⟨f4, S, rfl, hw4⟩ := hcut
   have HW4 := hH hw4
   clear hw4
   have b3 := HW4.out.boxi 3 rfl
   have c3 := own1 b3
   have z3 := b3.frozen 0
   have l3 := b3.lt
   clear b3
   gi_upto_region 7 with (fail)
   have HW5 : Hid (Wk w0 wr _ ((f4, [.pointer (some ⟨S, 0, none⟩)]) :: (S, SB pd.D gb q false q 0) :: (C, CB pd.D gb p q 0) :: (f3, [.bool false]) :: (f2, [.func (.yield l) #[] #[]]) :: (L ++ c.L)) (G ++ c.G) (fs ++ (F ++ c.F))) := hH (HW4.out.put 3 rfl 0 (.bool false))
   generalize World.setCell wc ⟨f3, 0, none⟩ (.bool false) = w5 at *
   clear c3 z3 l3 HW4
   have c4 := own1 (HW5.out.boxi 0 rfl)
   gi_wp2_with fail
   refine ⟨trivial, callsIn_wide.2 ((places_any _ _).mono ?_)⟩
   rintro en w6 ⟨rfl, rfl⟩
   have HW6 := hH (HW5.out.newB #[.pointer (some ⟨S, 0, none⟩)] 40 (b := w5.heap.size) rfl)
   clear HW5 c4
   generalize hz6 : w5.alloc (.cells #[.pointer (some ⟨S, 0, none⟩)] 40) = w6 at *
   generalize w5.heap.size = f7 at *
   clear hz6
   have hsz6 : W.heap.size ≤ w6.heap.size := Nat.le_trans hsz HW6.out.hs
   have hmk6 : Marks W.heap.size Ds w6 := HMK.out.kb HW6.out.kb HMK.out.lt
   have hJ6 : J none told c w6 := HJC.out _ _ _ _ _ HJT.out (HW6.out.kb.mono hsz)
   have hdl : ∀ E ∈ Ds, E < w6.heap.size := hmk6.lt
   have HMK6 := hH hmk6
   have HJ6 := hH hJ6
   have HDL := hH hdl
   clear hmk6 hJ6 hdl HMK HJT
   gi_wp2_with fail
   have H0 : At3 w0 w6 ⟨(S, SB pd.D gb q false q 0) :: ((f7, [.pointer (some ⟨S, 0, none⟩)]) :: L), G, fs ++ F⟩ (ChC C pd.D gb p q f2 f3 f4 S l false c) := at3_mk (HW6.out.toWc.perm (L' := ((S, SB pd.D gb q false q 0) :: ((f7, [.pointer (some ⟨S, 0, none⟩)]) :: L)) ++ ((f4, [.pointer (some ⟨S, 0, none⟩)]) :: (C, CB pd.D gb p q 0) :: (f3, [.bool false]) :: (f2, [.func (.yield l) #[] #[]]) :: c.L)) (perm_any (fun c => by simp only [List.map_cons, List.map_append, List.sum_cons, List.sum_append, List.cons_append, List.map_nil, List.sum_nil] <;> omega)) (List.Perm.refl _))
   have H00 := hH H0
   clear H0 HW6
   refine wpIn_rangeFunc_W rfl h1 (gf := 151) (lb := #[.pointer (some ⟨f7, 0, none⟩)]) rfl trivial (enters_of Tryz.func151 (by kernel_rfl) rfl) (c0 := (ChC C pd.D gb p q f2 f3 f4 S l false c))
    (fun W1 _ => places1_seq w0 W1 S f7 gb pd d cf q false q 0 ((f7, [.pointer (some ⟨S, 0, none⟩)]) :: L) G (fs ++ F) (n - 1) (by omega) (HDK.out.mono (fun x hx => mc _ hx)) List.mem_cons_self (List.mem_append_right _ HG.out) HC.out) (fun _ => rfl)
    (ChJ J C pd.D gb d cf p f2 f3 f4 S l told W.heap.size Ds)
    (fun pre x a cc V => ∃ (co : Fr3) (e : Ps) (more : Bool) (bP bR : Nat), cc = ⟨(bR, (x.r.cells x.s x.t).toList) :: (bP, [.int .i64 x.p.s, .int .i64 x.p.o, .int .i64 x.p.l, .int .i64 x.p.p, .int .i64 x.p.m]) :: (ChC C pd.D gb p e f2 f3 f4 S l more co).L, co.G, co.F⟩ ∧ a = { tmps := #[.func (.yield l) #[] #[], .pointer (some ⟨b1, 0, none⟩), .pointer (some ⟨f2, 0, none⟩), .pointer (some ⟨f3, 0, none⟩), .pointer (some ⟨f4, 0, none⟩), .pointer (some ⟨bP, 0, none⟩), .pointer (some ⟨bR, 0, none⟩), u7, u8, u9, u10, u11, u12, u13, u14, u15, u16, u17, u18, u19, u20, u21, u22, u23, u24, u25, u26, u27, u28, u29, u30, u31, u32, .pointer (some ⟨S, 0, none⟩), .func (.func 151) #[] #[.pointer (some ⟨f7, 0, none⟩)], .agg #[.int .i64 x.p.s, .int .i64 x.p.o, .int .i64 x.p.l, .int .i64 x.p.p, .int .i64 x.p.m], .agg (x.r.cells x.s x.t), u37, u38, u39, u40, u41, u42, u43, u44, u45, u46, u47, u48, u49, u50, u51, u52, u53, u54, u55, u56, u57, u58, u59, u60, u61, u62, u63, u64, u65], defers := [] } ∧ J none (told ++ pre) co V ∧ Marks W.heap.size Ds V ∧ OnSt d cf pre e more)
    ?hJ ?hJm ⟨c, q, false, rfl, by rw [List.append_nil]; exact HJ6.out, HMK6.out, .inl ⟨rfl, rfl⟩⟩ H00.out ?assign ?body ?done ?stop
   case hJ =>
    clear H00 HJ6 HMK6
    rintro (_ | cd) xs cc X Y h hb
    ·obtain ⟨co, e, more, hcc, hj, hm, ho⟩ := h
     exact ⟨co, e, more, hcc, HJC.out _ _ _ _ _ hj (hb.mono hsz6), hm.kb hb HDL.out, ho⟩
    obtain ⟨co, e, more, cd2, hcc, hcd, hj, hm, ho⟩ := h
    exact ⟨co, e, more, cd2, hcc, hcd, HJC.out _ _ _ _ _ hj (hb.mono hsz6), hm.kb hb HDL.out, ho⟩
   case hJm =>
    clear H00 HJ6 HMK6
    rintro pre x a cc X Y ⟨co, e, more, bP, bR, hcc, ha, hj, hm, ho⟩ hb
    exact ⟨co, e, more, bP, bR, hcc, ha, HJC.out _ _ _ _ _ hj (hb.mono hsz6), hm.kb hb HDL.out, ho⟩
   case assign =>
    as_aux_lemma =>
     clear H00 HJ6 HMK6
     rintro lr pre x φ cc W1 K hpre ⟨co, e, more, rfl, hj, hm, ho⟩ hat hsz1 hlen hK
     have HAT := hH hat
     have HPRE := hH hpre
     clear hat hpre
     simp only [Fnd.enc, Rc.cells, slv]
     gi_wp2
     refine hK _ ⟨(W1.heap.size + 1, (x.r.cells x.s x.t).toList) :: (W1.heap.size, [.int .i64 x.p.s, .int .i64 x.p.o, .int .i64 x.p.l, .int .i64 x.p.p, .int .i64 x.p.m]) :: (ChC C pd.D gb p e f2 f3 f4 S l more co).L, co.G, co.F⟩ _ (kf_of_only (S := []) (((Only.refl _ _).alloc _).alloc _) (by simp)) (HAT.out.new2 _ _ _ _) ⟨co, e, more, _, _, rfl, rfl, HJC.out _ _ _ _ _ hj (Kb.of_only (S := []) (((Only.refl _ _).alloc _).alloc _) (by simp)), hm.kb (C := W1.heap.size) (Kb.of_only (S := []) (((Only.refl _ _).alloc _).alloc _) (by simp)) hm.lt, ho⟩
   case body =>
    as_aux_lemma =>
     rintro lr pre x φ cc a' W1 ⟨b3, qx, fs', rfl, hfs', hpx, hfo⟩ ⟨co, e, more, bP, bR, rfl, rfl, hj, hm, ho⟩ hat hsz1 hlen
     have hat1 : Wc w0 W1 (((S, SB pd.D gb q false qx 0) :: (b3, [.int .i64 x.p.s, .int .i64 x.p.o, .int .i64 x.p.l, .int .i64 x.p.p, .int .i64 x.p.m]) :: (f7, [.pointer (some ⟨S, 0, none⟩)]) :: L) ++ ((bR, [.int .i64 x.r.m, .int .i64 x.r.n, .int .i64 x.r.p, .slice x.s.1 x.s.2.1 x.s.2.2, .slice x.t.1 x.t.2.1 x.t.2.2]) :: (bP, [.int .i64 x.p.s, .int .i64 x.p.o, .int .i64 x.p.l, .int .i64 x.p.p, .int .i64 x.p.m]) :: (f4, [.pointer (some ⟨S, 0, none⟩)]) :: (C, CB pd.D gb p e 0) :: (f3, [.bool more]) :: (f2, [.func (.yield l) #[] #[]]) :: co.L)) (G ++ co.G) ((fs' ++ (fs ++ F)) ++ co.F) := hat
     have HF := hH ((Wk.start hat1).perm (L' := (S, SB pd.D gb q false qx 0) :: (C, CB pd.D gb p e 0) :: (f3, [.bool more]) :: (f4, [.pointer (some ⟨S, 0, none⟩)]) :: (bR, [.int .i64 x.r.m, .int .i64 x.r.n, .int .i64 x.r.p, .slice x.s.1 x.s.2.1 x.s.2.2, .slice x.t.1 x.t.2.1 x.t.2.2]) :: (bP, [.int .i64 x.p.s, .int .i64 x.p.o, .int .i64 x.p.l, .int .i64 x.p.p, .int .i64 x.p.m]) :: (f2, [.func (.yield l) #[] #[]]) :: (b3, [.int .i64 x.p.s, .int .i64 x.p.o, .int .i64 x.p.l, .int .i64 x.p.p, .int .i64 x.p.m]) :: (f7, [.pointer (some ⟨S, 0, none⟩)]) :: (L ++ co.L)) (perm_any (fun c => by simp only [List.map_cons, List.map_append, List.sum_cons, List.sum_append, List.cons_append, List.map_nil, List.sum_nil] <;> omega)) (List.Perm.refl _))
     obtain ⟨e2, m2, hon⟩ : ∃ a b, onP cf x.r qx = (a, b) := ⟨_, _, rfl⟩
     have HON := hH hon
     have HFS2 := hH hfs'
     have HPX := hH hpx
     have HFO := hH hfo
     have HJ := hH hj
     have HM := hH hm
     clear hat hat1 hon hfs' hpx hfo hj hm ho H00 HJ6 HMK6
     have HXF : Hid (x.fct ∈ (fs' ++ (fs ++ F)) ++ co.F) := hH (List.mem_append_left _ (List.mem_append_left _ (HFS2.out x (by simp))))
     simp only [Rc.cells, slv]
     refine wpIn_block ?_
     gi_upto_region 10 with (fail)
     have HY := hH HF.out.drew
     clear HF
     refine wpIn_region_held_drew (S := (fun w' => w'.cell? ⟨b1, 0, none⟩ = some (.pointer (some ⟨C, 0, none⟩)) ∧ w'.cell? ⟨f4, 0, none⟩ = some (.pointer (some ⟨S, 0, none⟩)) ∧ Kn.Own w' bR [.int .i64 x.r.m, .int .i64 x.r.n, .int .i64 x.r.p, .slice x.s.1 x.s.2.1 x.s.2.2, .slice x.t.1 x.t.2.1 x.t.2.2])) (not_letsOut_then not_letsOut_postW) (plainOps_spec (by kernel_rfl)) (by kernel_rfl) ⟨own1 (HY.out.own _ (mc _ (mc _ (mc _ (mc _ (mc _ (mc _ (mc _ (mc _ (mc _ (List.mem_append_left _ HB1.out))))))))))), own1 (HY.out.boxi 3 rfl), HY.out.boxi 4 rfl⟩ (fun hSw0 => ?_)
     generalize W1.drew = wz at *
     refine tS 0 38 (hQ := fun _ _ _ h => h.elim) (v := (.pointer (some ⟨C, 0, none⟩))) (hy := fun w hSw => by
      have q0 := hSw.1
      go_simp) ?_
     refine tS 1 39 (hQ := fun _ _ _ h => h.elim) (v := (.pointer (some ⟨C, 0, none⟩))) (hy := fun w hSw => by
      have q0 := hSw.1
      go_simp) ?_
     refine tS 2 40 (hQ := fun _ _ _ h => h.elim) (v := (.agg #[.int .i64 x.r.m, .int .i64 x.r.n, .int .i64 x.r.p, .slice x.s.1 x.s.2.1 x.s.2.2, .slice x.t.1 x.t.2.1 x.t.2.2])) (hy := fun w hSw => by
      obtain ⟨q0, q1, q2, q3, q4⟩ := own5 hSw.2.2
      go_simp) ?_
     refine tS 3 41 (hQ := fun _ _ _ h => h.elim) (v := (.pointer (some ⟨S, 0, none⟩))) (hy := fun w hSw => by
      have q0 := hSw.2.1
      go_simp) ?_
     refine tR 4 42 fun K hK => ?_
     go_simp
     refine (scan_end_any w0 _ S gb pd.D q false qx 0 _ _ _ HY.out).mono ?_
     rintro en v1 ⟨rfl, hO⟩
     have HE1 := hH (HY.out.keep0 hO)
     clear hO HY
     refine hK.out _ _ ⟨own1 (HE1.out.own _ (mc _ (mc _ (mc _ (mc _ (mc _ (mc _ (mc _ (mc _ (mc _ (List.mem_append_left _ HB1.out))))))))))), own1 (HE1.out.boxi 3 rfl), HE1.out.boxi 4 rfl⟩ (fun hSn => ?_)
     clear hK K hSw0
     have hSw0 := hSn
     clear hSn
     refine tR 5 43 fun K hK => ?_
     go_simp
     refine (chain_on_any w0 _ C pd.D gb cf p e 0 x.r x.s x.t qx _ _ _ HE1.out.toWc (by simp) HXF.out (List.mem_append_left _ (List.mem_append_right _ (List.mem_append_right _ HG.out))) HC.out (fun v hv => follow_next HFO.out hv)).mono ?_
     rintro en v2 ⟨rfl, hO⟩
     rw [HON.out]
     dsimp only
     have HE2 := hH (HE1.out.keep0 hO)
     clear hO HE1
     refine hK.out _ _ ⟨own1 (HE2.out.own _ (mc _ (mc _ (mc _ (mc _ (mc _ (mc _ (mc _ (mc _ (mc _ (List.mem_append_left _ HB1.out))))))))))), own1 (HE2.out.boxi 3 rfl), HE2.out.boxi 4 rfl⟩ (fun hSn => ?_)
     clear hK K hSw0
     have hSw0 := hSn
     clear hSn
     refine tS 6 37 (hQ := fun _ _ _ h => h.elim) ?_
     refine tS 7 44 (hQ := fun _ _ _ h => h.elim) ?_
     refine tS 8 45 (hQ := fun _ _ _ h => h.elim) ?_
     refine tS 9 46 (hQ := fun _ _ _ h => h.elim) ?_
     refine tS 10 47 (hQ := fun _ _ _ h => h.elim) ?_
     refine Kn.takeR 11 ⟨none, _, _, _, _, _⟩ fun K hK => ?_
     have bC := HE2.out.boxi 1 rfl
     have c7 := bC.cellv 7
     have c8 := bC.cellv 8
     have c9 := bC.cellv 9
     have c10 := bC.cellv 10
     have c11 := bC.cellv 11
     have z7 := bC.frozen 7
     have z8 := bC.frozen 8
     have z9 := bC.frozen 9
     have z10 := bC.frozen 10
     have z11 := bC.frozen 11
     have lC := bC.lt
     go_simp
     have HE2s : Hid (Wk w0 W1 _ ((S, SB pd.D gb q false qx 0) :: (C, CB pd.D gb p e2 0) :: (f3, [.bool more]) :: (f4, [.pointer (some ⟨S, 0, none⟩)]) :: (bR, [.int .i64 x.r.m, .int .i64 x.r.n, .int .i64 x.r.p, .slice x.s.1 x.s.2.1 x.s.2.2, .slice x.t.1 x.t.2.1 x.t.2.2]) :: (bP, [.int .i64 x.p.s, .int .i64 x.p.o, .int .i64 x.p.l, .int .i64 x.p.p, .int .i64 x.p.m]) :: (f2, [.func (.yield l) #[] #[]]) :: (b3, [.int .i64 x.p.s, .int .i64 x.p.o, .int .i64 x.p.l, .int .i64 x.p.p, .int .i64 x.p.m]) :: (f7, [.pointer (some ⟨S, 0, none⟩)]) :: (L ++ co.L)) (G ++ co.G) ((fs' ++ (fs ++ F)) ++ co.F)) := hH (((((HE2.out.put 1 rfl 7 (.int .i64 e2.s)).put 1 rfl 8 (.int .i64 e2.o)).put 1 rfl 9 (.int .i64 e2.l)).put 1 rfl 10 (.int .i64 e2.p)).put 1 rfl 11 (.int .i64 e2.m))
     clear c7 z7 c8 z8 c9 z9 c10 z10 c11 z11 bC lC HE2
     obtain ⟨wy, hgn⟩ : ∃ x, x = (World.setCell (World.setCell (World.setCell (World.setCell (World.setCell v2 ⟨C, 7, none⟩ (.int .i64 e2.s)) ⟨C, 8, none⟩ (.int .i64 e2.o)) ⟨C, 9, none⟩ (.int .i64 e2.l)) ⟨C, 10, none⟩ (.int .i64 e2.p)) ⟨C, 11, none⟩ (.int .i64 e2.m)) := ⟨_, rfl⟩
     rw [← hgn] at HE2s ⊢
     clear hgn
     refine hK.out _ _ ⟨own1 (HE2s.out.own _ (mc _ (mc _ (mc _ (mc _ (mc _ (mc _ (mc _ (mc _ (mc _ (List.mem_append_left _ HB1.out))))))))))), own1 (HE2s.out.boxi 3 rfl), HE2s.out.boxi 4 rfl⟩ (fun hSn => ?_)
     clear hK K hSw0
     have hSw0 := hSn
     clear hSn
     refine Kn.takeR 12 ⟨none, _, _, _, _, _⟩ fun K hK => ?_
     have b3o := HE2s.out.boxi 2 rfl
     have c3 := own1 b3o
     have z3 := b3o.frozen 0
     have l3 := b3o.lt
     go_simp
     have HE2st : Hid (Wk w0 W1 _ ((S, SB pd.D gb q false qx 0) :: (C, CB pd.D gb p e2 0) :: (f3, [.bool m2]) :: (f4, [.pointer (some ⟨S, 0, none⟩)]) :: (bR, [.int .i64 x.r.m, .int .i64 x.r.n, .int .i64 x.r.p, .slice x.s.1 x.s.2.1 x.s.2.2, .slice x.t.1 x.t.2.1 x.t.2.2]) :: (bP, [.int .i64 x.p.s, .int .i64 x.p.o, .int .i64 x.p.l, .int .i64 x.p.p, .int .i64 x.p.m]) :: (f2, [.func (.yield l) #[] #[]]) :: (b3, [.int .i64 x.p.s, .int .i64 x.p.o, .int .i64 x.p.l, .int .i64 x.p.p, .int .i64 x.p.m]) :: (f7, [.pointer (some ⟨S, 0, none⟩)]) :: (L ++ co.L)) (G ++ co.G) ((fs' ++ (fs ++ F)) ++ co.F)) := hH (HE2s.out.put 2 rfl 0 (.bool m2))
     clear b3o c3 z3 l3 HE2s
     generalize World.setCell wy ⟨f3, 0, none⟩ (.bool m2) = wx2 at *
     refine hK.out _ _ ⟨own1 (HE2st.out.own _ (mc _ (mc _ (mc _ (mc _ (mc _ (mc _ (mc _ (mc _ (mc _ (List.mem_append_left _ HB1.out))))))))))), own1 (HE2st.out.boxi 3 rfl), HE2st.out.boxi 4 rfl⟩ (fun hSn => ?_)
     clear hK K hSw0
     have hSw0 := hSn
     clear hSn
     refine tD ?_ _
     clear hSw0
     generalize hgw : wx2 = w2 at *
     clear hgw
     have hA2 : At3 w0 w2 (⟨(C, CB pd.D gb p e2 0) :: (([(S, SB pd.D gb q false qx 0), (f3, [.bool m2]), (f4, [.pointer (some ⟨S, 0, none⟩)]), (bR, [.int .i64 x.r.m, .int .i64 x.r.n, .int .i64 x.r.p, .slice x.s.1 x.s.2.1 x.s.2.2, .slice x.t.1 x.t.2.1 x.t.2.2]), (bP, [.int .i64 x.p.s, .int .i64 x.p.o, .int .i64 x.p.l, .int .i64 x.p.p, .int .i64 x.p.m]), (f2, [.func (.yield l) #[] #[]]), (b3, [.int .i64 x.p.s, .int .i64 x.p.o, .int .i64 x.p.l, .int .i64 x.p.p, .int .i64 x.p.m]), (f7, [.pointer (some ⟨S, 0, none⟩)])] : List (Nat × List Value)) ++ L), G, (fs' ++ fs) ++ F⟩ : Fr3) co := at3_mk ((HE2st.out.toWc.perm (L' := ((C, CB pd.D gb p e2 0) :: (([(S, SB pd.D gb q false qx 0), (f3, [.bool m2]), (f4, [.pointer (some ⟨S, 0, none⟩)]), (bR, [.int .i64 x.r.m, .int .i64 x.r.n, .int .i64 x.r.p, .slice x.s.1 x.s.2.1 x.s.2.2, .slice x.t.1 x.t.2.1 x.t.2.2]), (bP, [.int .i64 x.p.s, .int .i64 x.p.o, .int .i64 x.p.l, .int .i64 x.p.p, .int .i64 x.p.m]), (f2, [.func (.yield l) #[] #[]]), (b3, [.int .i64 x.p.s, .int .i64 x.p.o, .int .i64 x.p.l, .int .i64 x.p.p, .int .i64 x.p.m]), (f7, [.pointer (some ⟨S, 0, none⟩)])] : List (Nat × List Value)) ++ L)) ++ co.L) (perm_any (fun c => by simp only [List.map_cons, List.map_append, List.sum_cons, List.sum_append, List.cons_append, List.map_nil, List.sum_nil] <;> omega)) (List.Perm.refl _)).subF (fun f hf => by simpa [List.append_assoc] using hf))
     have hkb2 : Kb W.heap.size W1 w2 := HE2st.out.kb.mono (Nat.le_trans hsz6 hsz1)
     have hkf2 : KeepsFrom w6.heap.size W1 w2 := kf_of_kb HE2st.out.kb
     have hs2 : W.heap.size ≤ w2.heap.size := Nat.le_trans (Nat.le_trans hsz6 hsz1) HE2st.out.hs
     have hpre2 : ((told ++ pre) ++ [x]).map Fnd.pr <+: (chainG d cf k0 p).1 := by
      rw [List.append_assoc, List.map_append, HSC.out]
      exact (List.prefix_append_right_inj _).2 (HPX.out.trans (scan_prefix_chain d cf k q))
     have hlen2 : (told ++ pre).length < N := by
      have g1 := hpre2.length_le
      have g2 := HN.out
      rw [List.length_map, List.length_append] at g1
      simp at g1 g2 ⊢
      omega
     obtain ⟨fn, tmps, assign, bdy, hy, hR⟩ := HYY.out (told ++ pre) x _ co w2 ⟨[(S, SB pd.D gb q false qx 0), (f3, [.bool m2]), (f4, [.pointer (some ⟨S, 0, none⟩)]), (bR, [.int .i64 x.r.m, .int .i64 x.r.n, .int .i64 x.r.p, .slice x.s.1 x.s.2.1 x.s.2.2, .slice x.t.1 x.t.2.1 x.t.2.2]), (bP, [.int .i64 x.p.s, .int .i64 x.p.o, .int .i64 x.p.l, .int .i64 x.p.p, .int .i64 x.p.m]), (f2, [.func (.yield l) #[] #[]]), (b3, [.int .i64 x.p.s, .int .i64 x.p.o, .int .i64 x.p.l, .int .i64 x.p.p, .int .i64 x.p.m]), (f7, [.pointer (some ⟨S, 0, none⟩)])], qx, fs' ++ fs, by rw [HON.out], (by
      intro y hy
      rw [List.append_assoc] at hy
      rcases List.mem_append.1 hy with hy | hy
      ·exact List.mem_append_right _ (HFS.out y hy)
      exact List.mem_append_left _ (HFS2.out y hy)), hpre2, HFO.out⟩ (HJC.out _ _ _ _ _ HJ.out hkb2) hA2 hs2 hlen2
     simp only [Fnd.enc, Rc.cells, slv] at hy
     have HKB2 := hH hkb2
     have HKF2 := hH hkf2
     clear hA2 hkb2 hkf2 hs2 hpre2 hlen2
     have cY := own1 (HE2st.out.boxi 6 rfl)
     obtain ⟨p0, p1, p2, p3, p4⟩ := own5 (HE2st.out.boxi 5 rfl)
     obtain ⟨r0, r1, r2, r3, r4⟩ := own5 (HE2st.out.boxi 4 rfl)
     gi_wp2_with fail
     refine ⟨fun _ => by omega, (round_wide lr (n - 1 - 1 - 1) hR).mono ?_⟩
     rintro e3 W' ⟨c', hA', hkf, hend⟩
     have hin : At3 w0 W' ⟨(S, SB pd.D gb q false qx 0) :: (b3, [.int .i64 x.p.s, .int .i64 x.p.o, .int .i64 x.p.l, .int .i64 x.p.p, .int .i64 x.p.m]) :: ((f7, [.pointer (some ⟨S, 0, none⟩)]) :: L), G, fs' ++ (fs ++ F)⟩ (ChC C pd.D gb p e2 f2 f3 f4 S l m2 c') := at3_mk ((((at3_get (fs := fs' ++ fs) hA').perm (L' := (bR, [.int .i64 x.r.m, .int .i64 x.r.n, .int .i64 x.r.p, .slice x.s.1 x.s.2.1 x.s.2.2, .slice x.t.1 x.t.2.1 x.t.2.2]) :: (bP, [.int .i64 x.p.s, .int .i64 x.p.o, .int .i64 x.p.l, .int .i64 x.p.p, .int .i64 x.p.m]) :: (((S, SB pd.D gb q false qx 0) :: (b3, [.int .i64 x.p.s, .int .i64 x.p.o, .int .i64 x.p.l, .int .i64 x.p.p, .int .i64 x.p.m]) :: ((f7, [.pointer (some ⟨S, 0, none⟩)]) :: L)) ++ ((f4, [.pointer (some ⟨S, 0, none⟩)]) :: (C, CB pd.D gb p e2 0) :: (f3, [.bool m2]) :: (f2, [.func (.yield l) #[] #[]]) :: c'.L))) (perm_any (fun c => by simp only [List.map_cons, List.map_append, List.sum_cons, List.sum_append, List.cons_append, List.map_nil, List.sum_nil] <;> omega)) (List.Perm.refl _)).ldrop.ldrop).subF (fun f hf => by simpa [List.append_assoc] using hf))
     have hkk : KeepsFrom w6.heap.size W1 W' := HKF2.out.trans ⟨hkf.size, fun k o hk => hkf.same k o (by omega)⟩
     have hmm : Marks W.heap.size Ds W' := (HM.out.kb (C := W1.heap.size) HE2st.out.kb HM.out.lt).kf hkf
     have hoo : OnSt d cf (pre ++ [x]) e2 m2 := .inr ⟨pre, x, qx, rfl, HFO.out, by rw [HON.out], by rw [HON.out]⟩
     rcases hend with ⟨rfl, hj'⟩ | ⟨rfl, cd, hj'⟩
     ·gi_wp2
      exact ⟨hkk, _, hin, c', e2, m2, rfl, by rw [← List.append_assoc]; exact hj', hmm, hoo⟩
     gi_wp2
     exact ⟨hkk, _, hin, c', e2, m2, cd, rfl, rfl, by rw [← List.append_assoc]; exact hj', hmm, hoo⟩
   case done =>
    as_aux_lemma =>
     rintro D xs φ cc W2 hD ⟨fs', rfl, hfs', hxs⟩ ⟨co, e, more, rfl, hj, hm, ho⟩ hat hK hsz2
     have hdn := ho.done hxs
     obtain ⟨E0, E1, E2, hE⟩ : ∃ a b c, scanR d cf false q = (a, b, c) := ⟨_, _, _, rfl⟩
     rw [hE] at hat hxs hdn
     dsimp only at hat hxs hdn
     have hat1 : Wc w0 W2 (((S, SB pd.D gb q false E1 E2) :: (f7, [.pointer (some ⟨S, 0, none⟩)]) :: L) ++ ((f4, [.pointer (some ⟨S, 0, none⟩)]) :: (C, CB pd.D gb p e 0) :: (f3, [.bool more]) :: (f2, [.func (.yield l) #[] #[]]) :: co.L)) (G ++ co.G) ((fs' ++ (fs ++ F)) ++ co.F) := hat
     have HF := hH ((Wk.start hat1).perm (L' := (S, SB pd.D gb q false E1 E2) :: (C, CB pd.D gb p e 0) :: (f3, [.bool more]) :: (f4, [.pointer (some ⟨S, 0, none⟩)]) :: (f2, [.func (.yield l) #[] #[]]) :: (f7, [.pointer (some ⟨S, 0, none⟩)]) :: (L ++ co.L)) (perm_any (fun c => by simp only [List.map_cons, List.map_append, List.sum_cons, List.sum_append, List.cons_append, List.map_nil, List.sum_nil] <;> omega)) (List.Perm.refl _))
     have HFS2 : Hid (∀ y ∈ told ++ xs, y.fct ∈ fs' ++ fs) := hH (fun y hy => (List.mem_append.1 hy).elim (fun h => List.mem_append_right _ (HFS.out y h)) (fun h => List.mem_append_left _ (hfs' y h)))
     have hms : Marks W.heap.size (D :: Ds) W2 := hm.cons (Nat.le_trans hsz6 hD) (fun E hE => Nat.lt_of_lt_of_le (HDL.out E hE) hD) hK
     have HM := hH hms
     have HJ := hH hj
     have HE := hH hE
     have HXS := hH hxs
     have hszz : W.heap.size ≤ W2.heap.size := Nat.le_trans hsz6 hsz2
     clear hat hat1 hms hj hm ho hK hfs' hE hxs H00 HJ6 HMK6
     have c3 := own1 (HF.out.boxi 2 rfl)
     rcases hdn with ⟨rfl, v, hnx, rfl⟩ | ⟨rfl, hnx⟩
     ·have hen := HKQ.out
      rw [chEnds_some (by rw [HE.out]; exact hnx), HE.out] at hen
      have HEN := hH hen
      have hch := HSC.out
      rw [chainG_some (by rw [HE.out]; exact hnx), HE.out] at hch
      dsimp only at hen hch
      have HCH : Hid (chainG d cf k0 p = ((told ++ xs).map Fnd.pr ++ (chainG d cf k (turnP E1 v)).1, (chainG d cf k (turnP E1 v)).2)) := hH (by rw [hch, List.map_append, HXS.out, List.append_assoc])
      have HSZ : Hid (W.heap.size ≤ (W2.alloc (.cells #[.bool true] 4)).heap.size) := hH (by rw [World.size_alloc]; omega)
      clear hen hch hnx
      gi_wp2_with fail
      refine Handed.intro k (by omega) ?_
      gi_step
      exact ⟨_, _, _, rfl, rfl, told ++ xs, co, fs' ++ fs, true, turnP E1 v, 0, D :: Ds, rfl, HSZ.out, ((HF.out.newB #[.bool true] 4 (b := W2.heap.size) rfl).toWc.perm (L' := (S, SB pd.D gb q false E1 E2) :: (f3, [.bool true]) :: (f4, [.pointer (some ⟨S, 0, none⟩)]) :: (f7, [.pointer (some ⟨S, 0, none⟩)]) :: (C, CB pd.D gb p (turnP E1 v) 0) :: (W2.heap.size, [.bool true]) :: (f2, [.func (.yield l) #[] #[]]) :: (L ++ co.L)) (perm_any (fun c => by simp only [List.map_cons, List.map_append, List.sum_cons, List.sum_append, List.cons_append, List.map_nil, List.sum_nil] <;> omega)) (List.Perm.refl _)).ldrop.ldrop.ldrop.ldrop.subF (fun f hf => by simpa [List.append_assoc] using hf), HFS2.out, HJC.out _ _ _ _ _ HJ.out (kb_only0 ((Only.refl _ _).alloc _)), HM.out.kb (C := W2.heap.size) (kb_only0 ((Only.refl _ _).alloc _)) HM.out.lt, .inl ⟨rfl, rfl, HEN.out, HCH.out⟩⟩
     gi_upto_region 13 with (fail)
     clear c3
     have HY := hH HF.out.drew
     clear HF
     refine wpIn_wide.2 (wp_region_held_drew (S := (fun w' => w'.cell? ⟨b1, 0, none⟩ = some (.pointer (some ⟨C, 0, none⟩)) ∧ w'.cell? ⟨f4, 0, none⟩ = some (.pointer (some ⟨S, 0, none⟩)))) (by kernel_rfl) ⟨own1 (HY.out.own _ (mc _ (mc _ (mc _ (mc _ (mc _ (mc _ (List.mem_append_left _ HB1.out)))))))), own1 (HY.out.boxi 3 rfl)⟩ (fun hSw0 => ?_))
     generalize W2.drew = wz at *
     refine tS 0 55 (hQ := fun _ _ _ h => h.elim) (v := (.pointer (some ⟨C, 0, none⟩))) (hy := fun w hSw => by
      have q0 := hSw.1
      go_simp) ?_
     refine tS 1 56 (hQ := fun _ _ _ h => h.elim) (v := (.pointer (some ⟨C, 0, none⟩))) (hy := fun w hSw => by
      have q0 := hSw.1
      go_simp) ?_
     refine tS 2 57 (hQ := fun _ _ _ h => h.elim) (v := (.pointer (some ⟨S, 0, none⟩))) (hy := fun w hSw => by
      have q0 := hSw.2
      go_simp) ?_
     refine tS 4 59 (hQ := fun _ _ _ h => h.elim) (v := (.pointer (some ⟨S, 0, none⟩))) (hy := fun w hSw => by
      have q0 := hSw.2
      go_simp) ?_
     refine tR 3 58 fun K hK => ?_
     go_simp
     refine (scan_end_any w0 _ S gb pd.D q false E1 E2 _ _ _ HY.out).mono ?_
     rintro en v1 ⟨rfl, hO⟩
     have HYe := hH (HY.out.keep0 hO)
     clear hO HY
     refine hK.out _ _ ⟨own1 (HYe.out.own _ (mc _ (mc _ (mc _ (mc _ (mc _ (mc _ (List.mem_append_left _ HB1.out)))))))), own1 (HYe.out.boxi 3 rfl)⟩ (fun hSn => ?_)
     clear hK K hSw0
     have hSw0 := hSn
     clear hSn
     refine tR 5 60 fun K hK => ?_
     go_simp
     refine (scan_err_any w0 _ S gb pd.D q false E1 E2 _ _ _ HYe.out).mono ?_
     rintro en v2 ⟨rfl, rfl⟩
     refine hK.out _ _ ⟨own1 (HYe.out.own _ (mc _ (mc _ (mc _ (mc _ (mc _ (mc _ (List.mem_append_left _ HB1.out)))))))), own1 (HYe.out.boxi 3 rfl)⟩ (fun hSn => ?_)
     clear hK K hSw0
     have hSw0 := hSn
     clear hSn
     refine tS 6 61 (hQ := fun _ _ _ h => h.elim) ?_
     refine tS 7 62 (hQ := fun _ _ _ h => h.elim) ?_
     refine Kn.takeR 8 ⟨none, _, _, _, _, _⟩ fun K hK => ?_
     have bC := HYe.out.boxi 1 rfl
     have c7 := bC.cellv 7
     have c8 := bC.cellv 8
     have c9 := bC.cellv 9
     have c10 := bC.cellv 10
     have c11 := bC.cellv 11
     have z7 := bC.frozen 7
     have z8 := bC.frozen 8
     have z9 := bC.frozen 9
     have z10 := bC.frozen 10
     have z11 := bC.frozen 11
     have lC := bC.lt
     go_simp
     have HYes : Hid (Wk w0 W2 _ ((S, SB pd.D gb q false E1 E2) :: (C, CB pd.D gb p E1 0) :: (f3, [.bool false]) :: (f4, [.pointer (some ⟨S, 0, none⟩)]) :: (f2, [.func (.yield l) #[] #[]]) :: (f7, [.pointer (some ⟨S, 0, none⟩)]) :: (L ++ co.L)) (G ++ co.G) ((fs' ++ (fs ++ F)) ++ co.F)) := hH (((((HYe.out.put 1 rfl 7 (.int .i64 E1.s)).put 1 rfl 8 (.int .i64 E1.o)).put 1 rfl 9 (.int .i64 E1.l)).put 1 rfl 10 (.int .i64 E1.p)).put 1 rfl 11 (.int .i64 E1.m))
     clear c7 z7 c8 z8 c9 z9 c10 z10 c11 z11 bC lC HYe
     obtain ⟨wy, hgn⟩ : ∃ x, x = (World.setCell (World.setCell (World.setCell (World.setCell (World.setCell v1 ⟨C, 7, none⟩ (.int .i64 E1.s)) ⟨C, 8, none⟩ (.int .i64 E1.o)) ⟨C, 9, none⟩ (.int .i64 E1.l)) ⟨C, 10, none⟩ (.int .i64 E1.p)) ⟨C, 11, none⟩ (.int .i64 E1.m)) := ⟨_, rfl⟩
     rw [← hgn] at HYes ⊢
     clear hgn
     refine hK.out _ _ ⟨own1 (HYes.out.own _ (mc _ (mc _ (mc _ (mc _ (mc _ (mc _ (List.mem_append_left _ HB1.out)))))))), own1 (HYes.out.boxi 3 rfl)⟩ (fun hSn => ?_)
     clear hK K hSw0
     have hSw0 := hSn
     clear hSn
     refine tS 9 63 (hQ := fun _ _ _ h => h.elim) ?_
     refine tS 10 64 (hQ := fun _ _ _ h => h.elim) ?_
     refine Kn.takeR 11 ⟨none, _, _, _, _, _⟩ fun K hK => ?_
     have bC := HYes.out.boxi 1 rfl
     have c12 := bC.cellv 12
     have z12 := bC.frozen 12
     have lC := bC.lt
     go_simp
     have HYest : Hid (Wk w0 W2 _ ((S, SB pd.D gb q false E1 E2) :: (C, CB pd.D gb p E1 E2) :: (f3, [.bool false]) :: (f4, [.pointer (some ⟨S, 0, none⟩)]) :: (f2, [.func (.yield l) #[] #[]]) :: (f7, [.pointer (some ⟨S, 0, none⟩)]) :: (L ++ co.L)) (G ++ co.G) ((fs' ++ (fs ++ F)) ++ co.F)) := hH (HYes.out.put 1 rfl 12 (.int .i64 E2))
     clear c12 z12 bC lC HYes
     obtain ⟨wx2, hgn⟩ : ∃ x, x = (World.setCell wy ⟨C, 12, none⟩ (.int .i64 E2)) := ⟨_, rfl⟩
     rw [← hgn] at HYest ⊢
     clear hgn
     refine hK.out _ _ ⟨own1 (HYest.out.own _ (mc _ (mc _ (mc _ (mc _ (mc _ (mc _ (List.mem_append_left _ HB1.out)))))))), own1 (HYest.out.boxi 3 rfl)⟩ (fun hSn => ?_)
     clear hK K hSw0
     have hSw0 := hSn
     clear hSn
     refine tD ?_ _
     clear hSw0
     have c3 := own1 (HYest.out.boxi 2 rfl)
     gi_wp2_with fail
     refine Handed.intro k (by omega) ?_
     gi_step
     exact ⟨_, _, _, rfl, rfl, told ++ xs, co, fs' ++ fs, false, E1, E2, D :: Ds, rfl, by have := HYest.out.hs; simp; omega, ((HYest.out.newB #[.bool false] 4 (b := wx2.heap.size) rfl).toWc.perm (L' := (S, SB pd.D gb q false E1 E2) :: (f3, [.bool false]) :: (f4, [.pointer (some ⟨S, 0, none⟩)]) :: (f7, [.pointer (some ⟨S, 0, none⟩)]) :: (C, CB pd.D gb p E1 E2) :: (wx2.heap.size, [.bool false]) :: (f2, [.func (.yield l) #[] #[]]) :: (L ++ co.L)) (perm_any (fun c => by simp only [List.map_cons, List.map_append, List.sum_cons, List.sum_append, List.cons_append, List.map_nil, List.sum_nil] <;> omega)) (List.Perm.refl _)).ldrop.ldrop.ldrop.ldrop.subF (fun f hf => by simpa [List.append_assoc] using hf), HFS2.out, HJC.out _ _ _ _ _ HJ.out ((HYest.out.kb.mono hszz).trans (kb_only0 ((Only.refl _ _).alloc _))), (HM.out.kb (C := W2.heap.size) (HYest.out.kb.trans (kb_only0 ((Only.refl _ _).alloc _))) HM.out.lt), .inr ⟨rfl, by rw [HSC.out, chainG_none (by rw [HE.out]; exact hnx), HE.out, List.map_append, HXS.out]⟩⟩
   as_aux_lemma =>
    rintro D cd pre φ cc W2 hD ⟨qx, fs', rfl, hfs', hpx, pre', x, rfl, hfo⟩ ⟨co, e, more, cd', rfl, rfl, hj, hm, ho⟩ hat hK hsz2
    obtain ⟨he, -⟩ := ho.snoc hfo
    have hat1 : Wc w0 W2 (((S, SB pd.D gb q false qx 0) :: (f7, [.pointer (some ⟨S, 0, none⟩)]) :: L) ++ ((f4, [.pointer (some ⟨S, 0, none⟩)]) :: (C, CB pd.D gb p e 0) :: (f3, [.bool more]) :: (f2, [.func (.yield l) #[] #[]]) :: co.L)) (G ++ co.G) ((fs' ++ (fs ++ F)) ++ co.F) := hat
    have hA2 : At3 w0 W2 (⟨(C, CB pd.D gb p e 0) :: (([(S, SB pd.D gb q false qx 0), (f3, [.bool more]), (f4, [.pointer (some ⟨S, 0, none⟩)]), (f2, [.func (.yield l) #[] #[]]), (f7, [.pointer (some ⟨S, 0, none⟩)])] : List (Nat × List Value)) ++ L), G, (fs' ++ fs) ++ F⟩ : Fr3) co := at3_mk ((hat1.perm (L' := ((C, CB pd.D gb p e 0) :: (([(S, SB pd.D gb q false qx 0), (f3, [.bool more]), (f4, [.pointer (some ⟨S, 0, none⟩)]), (f2, [.func (.yield l) #[] #[]]), (f7, [.pointer (some ⟨S, 0, none⟩)])] : List (Nat × List Value)) ++ L)) ++ co.L) (perm_any (fun c => by simp only [List.map_cons, List.map_append, List.sum_cons, List.sum_append, List.cons_append, List.map_nil, List.sum_nil] <;> omega)) (List.Perm.refl _)).subF (fun f hf => by simpa [List.append_assoc] using hf))
    have hms : Marks W.heap.size (D :: Ds) W2 := hm.cons (Nat.le_trans hsz6 hD) (fun E hE => Nat.lt_of_lt_of_le (HDL.out E hE) hD) hK
    clear hat hat1 hm hK H00 HJ6 HMK6
    gi_wp2_with fail
    show LeavesInM Fence.wide n Tryz.prog Tryz.f179 _ _ ((D :: Ds).map mkD) .returning W2
    refine marks_many (B := W.heap.size) (fun V => At3 w0 V (⟨(C, CB pd.D gb p e 0) :: (([(S, SB pd.D gb q false qx 0), (f3, [.bool more]), (f4, [.pointer (some ⟨S, 0, none⟩)]), (f2, [.func (.yield l) #[] #[]]), (f7, [.pointer (some ⟨S, 0, none⟩)])] : List (Nat × List Value)) ++ L), G, (fs' ++ fs) ++ F⟩ : Fr3) co ∧ J (some cd') (told ++ (pre' ++ [x])) co V ∧ W.heap.size ≤ V.heap.size) ?_ ?_ (D :: Ds) W2 ⟨hA2, hj, Nat.le_trans hsz6 hsz2⟩ hms
    ·rintro V E ⟨g1, g2, g3⟩ hE hKE2
     exact ⟨g1.putObj _ hKE2 rfl (Nat.le_trans hws hE), HJC.out _ _ _ _ _ g2 (kb_putObj _ _ hE), by simpa using g3⟩
    rintro V ⟨g1, g2, g3⟩
    exact ⟨_, results_none rfl _ _ _, ⟨_, rfl⟩, g3, _, _, g1, .inr ⟨told ++ (pre' ++ [x]), cd', ⟨[(S, SB pd.D gb q false qx 0), (f3, [.bool more]), (f4, [.pointer (some ⟨S, 0, none⟩)]), (f2, [.func (.yield l) #[] #[]]), (f7, [.pointer (some ⟨S, 0, none⟩)])], qx, fs' ++ fs, told ++ pre', x, by rw [he], (fun y hy => (List.mem_append.1 hy).elim (fun h => List.mem_append_right _ (HFS.out y h)) (fun h => List.mem_append_left _ (hfs' y h))), (by rw [List.map_append, HSC.out]; exact (List.prefix_append_right_inj _).2 (hpx.trans (scan_prefix_chain d cf k q))), by rw [List.append_assoc], hfo⟩, g2⟩⟩
 as_aux_lemma =>
  have HW := hH hw
  have c3 := own1 (HW.out.boxi 1 rfl)
  clear hw
  gi_wp2_with fail
  show LeavesInM Fence.wide n Tryz.prog Tryz.f179 _ _ (Ds.map mkD) .returning wr
  refine marks_many (B := W.heap.size) (fun V => At3 w0 V (⟨(C, CB pd.D gb p q er) :: (([(f3, [.bool false]), (f2, [.func (.yield l) #[] #[]])] : List (Nat × List Value)) ++ L), G, fs ++ F⟩ : Fr3) c ∧ J none told c V ∧ W.heap.size ≤ V.heap.size) ?_ ?_ Ds wr ⟨at3_mk HW.out, hJt, hsz⟩ hmk
  ·rintro V E ⟨g1, g2, g3⟩ hE hKE2
   exact ⟨g1.putObj _ hKE2 rfl (Nat.le_trans hws hE), HJC.out _ _ _ _ _ g2 (kb_putObj _ _ hE), by simpa using g3⟩
  rintro V ⟨g1, g2, g3⟩
  exact ⟨_, results_none rfl _ _ _, ⟨_, rfl⟩, g3, _, _, g1, .inl ⟨told, ⟨[(f3, [.bool false]), (f2, [.func (.yield l) #[] #[]])], fs, by rw [hsc], hfs, by rw [hsc]⟩, g2⟩⟩
end Go.Proofs.YtgcfdjcpcclcjaaGreat
namespace Go.Proofs.YtgcfdjcpcclcjaaGreat
open Go Go.RowKit Go.Kn Go.Shelf
attribute [local go_sem] Oper.semAt_some
theorem infoFound14 : (Tryz.prog.info? 118).map (fun i => (i.zero, i.size, i.bytes)) = some (some (.agg #[.int .i64 0, .int .i64 0, .int .i64 0, .int .i64 0, .int .i64 0, .int .i64 0, .int .i64 0, .int .i64 0, .slice none 0 0, .slice none 0 0]), 10, 112) := by kernel_rfl
def WkSays (w0 wb : World) (C D gb : Nat) (p : Ps) (L : List (Nat × List Value)) (G : List Gs) (F : List (World → Prop)) (x : List (Ps × Rc) × Ps × Int) (en : Ending) (w' : World) : Prop :=
 ∃ (xs : List Fnd) (A : Option Addr) (c : Nat) (fs : List (World → Prop)), en = .returned (.slice A xs.length c) ∧ xs.map Fnd.pr = x.1 ∧ (∀ y ∈ xs, y.fct ∈ fs) ∧
  Wk w0 wb w' ((C, CB D gb p x.2.1 x.2.2) :: L) (⟨118, 10, .slice A xs.length c, xs.length, rfndV xs⟩ :: G) (fs ++ F)
def WcC (b3 b6 most : Nat) (A : Option Addr) (c : Nat) (pre : List Fnd) : Fr3 := ⟨[(b6, [.slice A pre.length c]), (b3, [.int .i64 (most : Int)])], [⟨118, 10, .slice A pre.length c, pre.length, rfndV pre⟩], []⟩
def WcJ (wb : World) (b3 b6 most : Nat) : Option Code → List Fnd → Fr3 → World → Prop
 | none, pre, c, W => ∃ (A : Option Addr) (k : Nat), c = WcC b3 b6 most A k pre ∧ Kb wb.heap.size wb W
 | some _, _, _, _ => False
def WcM (wb : World) (C b3 b6 bS most : Nat) (pre : List Fnd) (x : Fnd) (a : Act) (c : Fr3) (W : World) : Prop :=
 ∃ (A : Option Addr) (k bR bP : Nat), c = ⟨(bR, (x.r.cells x.s x.t).toList) :: (bP, [.int .i64 x.p.s, .int .i64 x.p.o, .int .i64 x.p.l, .int .i64 x.p.p, .int .i64 x.p.m]) :: (WcC b3 b6 most A k pre).L, (WcC b3 b6 most A k pre).G, []⟩ ∧
  a = { tmps := #[.pointer (some ⟨C, 0, none⟩), .int .i64 (most : Int), undef, .pointer (some ⟨b3, 0, none⟩), .slice none 0 0, .func (.func 179) #[] #[.pointer (some ⟨bS, 0, none⟩)], .pointer (some ⟨b6, 0, none⟩), .pointer (some ⟨bP, 0, none⟩), .pointer (some ⟨bR, 0, none⟩), .pointer (some ⟨C, 0, none⟩), .func (.func 179) #[] #[.pointer (some ⟨bS, 0, none⟩)], .func (.func 179) #[] #[.pointer (some ⟨bS, 0, none⟩)], .bool false, .func (.func 179) #[] #[.pointer (some ⟨bS, 0, none⟩)], .agg #[.int .i64 x.p.s, .int .i64 x.p.o, .int .i64 x.p.l, .int .i64 x.p.p, .int .i64 x.p.m], .agg (x.r.cells x.s x.t), undef, undef, undef, undef, undef, undef, undef, undef, undef, undef, undef], defers := [] } ∧ Kb wb.heap.size wb W
theorem walk14_any {wb : World} (w0 w : World) (C gb : Nat) (pd : PD) (d : Dk) (cf : Cf) (p : Ps) (e : Ps) (er : Int) (k0 : Nat) (L : List (Nat × List Value)) (G : List Gs) (F : List (World → Prop)) (most : Nat)
  (hw : Wk w0 wb w ((C, CB pd.D gb p e er) :: L) G F) (hd : DkIn pd d L) (hg : (fun W => GeoAt W gb cf.b cf.s cf.l) ∈ F) (hc : cf.Ok) (hk : ChEnds d cf k0 p) (hm : (chainG d cf k0 p).1.length ≤ most) (hmm : most ≤ 1000) :
  Calls Tryz.prog 57 #[.pointer (some ⟨C, 0, none⟩), .int .i64 (most : Int)] w (WkSays w0 wb C pd.D gb p L G F (chainG d cf k0 p)) := by
 have HA := hH hw
 have HDK := hH hd
 obtain ⟨i0, hi0, hz0, hz1, hz2⟩ := info_parts infoFound14
 have HG := hH hg
 have HM := hH hm
 have HKE := hH hk
 clear hw hd hg hm hk
 have hfn := fun (w : World) (x y : Array Value) => run_eql_func_nil (P := Tryz.prog) w 172 Tryz.underlying172 (.func 179) x y
 refine (callsIn_wide (n := 6)).1 (callsIn_of_wp_marks Tryz.func57 rfl trivial ?_ rfl)
 simp only [Tryz.ntmps57, List.size_toArray, List.length_cons, List.length_nil, Nat.reduceAdd, Nat.reduceSub, Array.replicate_succ, Array.replicate_zero, List.push_toArray, List.append_toArray, List.nil_append, List.cons_append]
 refine wpIn_wide.2 ?_
 go_wp2_with fail
 refine (chain_records_any _ _).mono ?_
 rintro en w1 ⟨rfl, rfl⟩
 go_wp2_with fail
 obtain ⟨b3, h3⟩ : ∃ k, k = w.heap.size := ⟨_, rfl⟩
 have hs1 : (w.alloc (.cells #[.int .i64 (most : Int)] 3)).heap.size = w.heap.size + 1 := by simp
 have hs2 : ((w.alloc (.cells #[.int .i64 (most : Int)] 3)).alloc (.cells #[.pointer (some ⟨C, 0, none⟩)] 113)).heap.size = w.heap.size + 1 + 1 := by simp
 have hw2 := ((((HA.out.newB #[.int .i64 (most : Int)] 3 rfl).newB #[.pointer (some ⟨C, 0, none⟩)] 113 hs1).newB #[.slice none 0 0] 115 hs2).gnew 118 10)
 generalize hz : ((w.alloc (.cells #[.int .i64 (most : Int)] 3)).alloc (.cells #[.pointer (some ⟨C, 0, none⟩)] 113)).alloc (.cells #[.slice none 0 0] 115) = w2 at *
 rw [← h3] at hw2 ⊢
 have HW2 := hH hw2
 obtain ⟨bS, hbS⟩ : ∃ k, k = b3 + 1 := ⟨_, rfl⟩
 rw [← hbS] at HW2 ⊢
 obtain ⟨b6, hb6⟩ : ∃ k, k = bS + 1 := ⟨_, rfl⟩
 rw [← hb6] at HW2 ⊢
 have hbw : wb.heap.size ≤ w2.heap.size := HW2.out.hs
 clear hw2 hz h3 hbS hb6 hs1 hs2 HA
 refine (wpIn_wide (n := 6)).1 ?_
 refine wpIn_rangeFunc_W (F := Fence.wide) (n := 6) rfl (by decide) (gf := 179) (lb := #[.pointer (some ⟨bS, 0, none⟩)]) rfl trivial (enters_of Tryz.func179 (by kernel_rfl) rfl)
  (c0 := WcC b3 b6 most none 0 []) (fun W1 _ => chrec1_seq w0 W1 C bS gb pd d cf p e er ((bS, [.pointer (some ⟨C, 0, none⟩)]) :: L) G F (6 - 1) (by decide) k0 most (HDK.out.mono (fun x hx => mc _ hx)) List.mem_cons_self HG.out hc HKE.out HM.out) (fun _ => rfl)
  (WcJ wb b3 b6 most) (WcM wb C b3 b6 bS most) ?hJ ?hJm ⟨none, 0, rfl, HW2.out.kb⟩ ?h0 ?assign ?body ?done ?stop
 case h0 =>
  show Wc w0 w2 _ _ (F ++ [])
  rw [List.append_nil]
  exact (HW2.out.perm (perm_w _ _ _ _ _) (List.perm_append_comm (l₁ := [_]))).toWc
 case hJ =>
  rintro (_ | cd) xs c X Y h hb
  ·obtain ⟨A, k, hc, hk⟩ := h
   exact ⟨A, k, hc, hk.trans (hb.mono hbw)⟩
  exact h.elim
 case hJm =>
  rintro pre x a c X Y ⟨A, k, bR, bP, hc, ha, hk⟩ hb
  exact ⟨A, k, bR, bP, hc, ha, hk.trans (hb.mono hbw)⟩
 case assign =>
  rintro lr pre x φ c W1 K hpre ⟨A, k, rfl, hk⟩ hat hsz hlen hK
  obtain ⟨xp, r, ⟨s1, s2, s3⟩, ⟨t1, t2, t3⟩⟩ := x
  simp only [Fnd.enc, Rc.cells, slv]
  have HAT := hH hat
  have HPRE := hH hpre
  clear hat hpre
  gi_wp2
  have hsw : (W1.alloc (.cells #[.int .i64 xp.s, .int .i64 xp.o, .int .i64 xp.l, .int .i64 xp.p, .int .i64 xp.m] 32)).heap.size = W1.heap.size + 1 := by simp
  have hat2 := (HAT.out.new1 #[.int .i64 xp.s, .int .i64 xp.o, .int .i64 xp.l, .int .i64 xp.p, .int .i64 xp.m] 32).new1 (r.cells (s1, s2, s3) (t1, t2, t3)) 56
  rw [hsw] at hat2
  (try rw [hsw])
  refine hK _ _ _ (kf_of_only (S := []) (((Only.refl _ _).alloc _).alloc _) (by simp)) hat2 ⟨A, k, W1.heap.size + 1, W1.heap.size, rfl, rfl, hk.trans (Kb.of_only (S := []) (((Only.refl _ _).alloc _).alloc _) (by simp))⟩
 case body =>
  rintro lr pre x φ c a' W1 ⟨X, q, fs, rfl, hfs, hpx, hfo⟩ ⟨A, k, bR, bP, rfl, rfl, hk⟩ hat hsz hlen
  obtain ⟨y, hy0⟩ : ∃ y, y = x := ⟨_, rfl⟩
  have HY0 := hH hy0
  have hpl := hpx.length_le
  have hml := HM.out
  simp only [List.length_map, List.length_append, List.length_cons, List.length_nil] at hpl
  obtain ⟨xp, r, ⟨s1, s2, s3⟩, ⟨t1, t2, t3⟩⟩ := x
  simp only [Rc.cells, slv]
  have HF := hH (Wk.start hat.flip)
  have hyo : rfnd y = [.int .i64 xp.s, .int .i64 xp.o, .int .i64 xp.l, .int .i64 xp.p, .int .i64 xp.m, .int .i64 r.m, .int .i64 r.n, .int .i64 r.p, .slice s1 s2 s3, .slice t1 t2 t3] := by rw [hy0]; rfl
  have HYO := hH hyo
  obtain ⟨j, hj⟩ : ∃ j, j = pre.length := ⟨_, rfl⟩
  have HJ := hH hj
  have hjm : (j : Int) < (most : Int) := by omega
  have hj9 : j < 1000 := by omega
  have hwa : (WcC b3 b6 most A k pre) = ⟨[(b6, [.slice A j k]), (b3, [.int .i64 (most : Int)])], [⟨118, 10, .slice A j k, j, rfndV pre⟩], []⟩ := by rw [hj]; rfl
  rw [hwa] at HF
  have yR := HF.out.boxi 0 rfl
  simp only [Rc.cells, slv] at yR
  obtain ⟨r0, r1, r2, r3, r4⟩ := Kn.own5 yR
  obtain ⟨p0, p1, p2, p3, p4⟩ := own5 (HF.out.boxi 1 rfl)
  have y6 := HF.out.boxi 2 rfl
  have c6 := y6.cell 0 (by simp)
  have f6 := y6.frozen 0
  have l6 := y6.lt
  have c3 := (HF.out.boxi 3 rfl).cell 0 (by simp)
  simp only [g0] at c6 c3
  have HD := hH (HF.out.alloc (.cells #[.int .i64 xp.s, .int .i64 xp.o, .int .i64 xp.l, .int .i64 xp.p, .int .i64 xp.m, .int .i64 r.m, .int .i64 r.n, .int .i64 r.p, .slice s1 s2 s3, .slice t1 t2 t3] 118))
  have hnw := news_new W1 #[.int .i64 xp.s, .int .i64 xp.o, .int .i64 xp.l, .int .i64 xp.p, .int .i64 xp.m, .int .i64 r.m, .int .i64 r.n, .int .i64 r.p, .slice s1 s2 s3, .slice t1 t2 t3] 118 (by simp [maxLen])
  have HNW := hH hnw
  have HON := hH (rfnd_one y)
  have HBS := hH HD.out.only.size
  rw [HYO.out] at HON
  clear hnw hyo hy0 hj hwa yR y6 hat hfs hpx hpl hml hfo
  refine wpIn_block ?_
  gi_wp2_with (first
   | (gi_at_builtin; refine wpListIn_append_own_at _ rfl (.tmp 20) (.tmp 24) 115 rfl w0.heap.size 118 i0 _ 10 112 Tryz.underlying115 hi0 hz0 hz1 hz2 rfl (by decide) (.slice A j k) j (rfndV pre) rfl (HD.out.gi 0 rfl) ⟨W1.heap.size, 0, none⟩ 1 1 [.int .i64 xp.s, .int .i64 xp.o, .int .i64 xp.l, .int .i64 xp.p, .int .i64 xp.m, .int .i64 r.m, .int .i64 r.n, .int .i64 r.p, .slice s1 s2 s3, .slice t1 t2 t3] rfl rfl HNW.out HON.out (by unfold maxLen; omega) (by omega) HBS.out ?_; intro v5 w5 hown hgrow _ hat2; rw [← HYO.out, ← rfndV_snoc] at hown; have hdd := HD.out.gapp 0 rfl hown hgrow hat2; obtain ⟨A6, k6, rfl⟩ := hdd.gform 0 rfl; simp only [List.set_cons_zero, List.set_cons_succ] at hdd; have HD5 := hH hdd; have HGR := hH hgrow; clear hdd hown hgrow hat2 HNW HON HBS c6 f6 l6; have y6 := HD5.out.boxi 2 rfl; have c6 := y6.cell 0 (by simp); have f6 := y6.frozen 0; have l6 := y6.lt; simp only [g0] at c6; clear y6)
   | fail)
  have hl2 : (pre ++ [y]).length = j + 1 := by simp [HJ.out]
  have hwa2 : WcC b3 b6 most A6 k6 (pre ++ [y]) = ⟨[(b6, [.slice A6 (j + 1) k6]), (b3, [.int .i64 (most : Int)])], [⟨118, 10, .slice A6 (j + 1) k6, j + 1, rfndV (pre ++ [y])⟩], []⟩ := by unfold WcC; rw [hl2]
  have hw6 := (HD5.out.put 2 (p := b6) rfl 0 (.slice A6 (j + 1) k6)).ldrop.ldrop
  rw [← HY0.out]
  refine ⟨kf_of_kb hw6.kb, WcC b3 b6 most A6 k6 (pre ++ [y]), ?_, ⟨A6, k6, rfl, hk.trans (hw6.kb.mono (Nat.le_trans hbw hsz))⟩⟩
  rw [hwa2]
  exact At3.unflip hw6.toWc
 case done =>
  rintro D xs φ c W1 hD ⟨X, fs, rfl, hfs, hxs⟩ ⟨A, k, rfl, hkb⟩ hat hK hsz
  have HF := hH (Wk.start hat.flip)
  obtain ⟨j, hj⟩ : ∃ j, j = xs.length := ⟨_, rfl⟩
  have HJ := hH hj
  have hwa : (WcC b3 b6 most A k xs) = ⟨[(b6, [.slice A j k]), (b3, [.int .i64 (most : Int)])], [⟨118, 10, .slice A j k, j, rfndV xs⟩], []⟩ := by rw [hj]; rfl
  rw [hwa] at HF
  have c6 := Kn.own1 (HF.out.boxi 0 rfl)
  clear hj hwa hat
  go_wp2_with fail
  refine marks_ret1 (v := .slice A j k) (D := D) hK (by kernel_rfl) rfl ?_
  have hw := HF.out.toWc.putObj (.deferred none) hK rfl (Nat.le_trans HW2.out.only.size hD)
  simp only [List.append_nil] at hw
  have hw2 := hw.sub (L' := (C, CB pd.D gb p (chainG d cf k0 p).2.1 (chainG d cf k0 p).2.2) :: L) (.cons _ (.cons _ (.cons_cons _ ((List.sublist_cons_self _ _).trans (List.sublist_append_right _ _))))) (fun f hf => hf)
  rw [HJ.out] at hw2 ⊢
  exact ⟨xs, A, k, fs, rfl, hxs, hfs, hw2, hkb.trans (kb_putObj _ _ (Nat.le_trans hbw hD))⟩
 rintro D cd pre φ c W1 hD hfix hj
 exact hj.elim
end Go.Proofs.YtgcfdjcpcclcjaaGreat
namespace Go.Proofs.YtgcfdjcpcclcjaaGreat
open Go Go.RowKit Go.Kn Go.Shelf
attribute [local go_sem] Oper.semAt_some
theorem chrec1_nil (w0 W : World) (b1 : Nat) (L : List (Nat × List Value)) (G : List Gs) (F : List (World → Prop)) (n : Nat) (hn : 1 ≤ n) (hb1 : (b1, [.pointer none]) ∈ L) :
  SeqW Fence.wide n Tryz.prog 179 #[.pointer (some ⟨b1, 0, none⟩)] Fnd.enc (fun _ _ _ => False) (fun xs φ => xs = [] ∧ φ = ⟨L, G, F⟩) (fun _ _ => False) 65 w0 W ⟨L, G, F⟩ := by
 intro l J c0 hJc hY hJ0 hA
 have hA' : Wc w0 W (L ++ c0.L) (G ++ c0.G) (F ++ c0.F) := hA
 have c1 : (W.alloc (.cells #[.func (.yield l) #[] #[]] 221)).cell? ⟨b1, 0, none⟩ = some (.pointer none) := own1 ((hA'.alloc _).own _ (List.mem_append_left _ hb1))
 have hJ1 := hJc _ _ _ _ _ hJ0 (Kb.of_only (S := []) ((Only.refl _ _).alloc (.cells #[.func (.yield l) #[] #[]] 221)) (by simp))
 have hA2 := hA'.alloc (.cells #[.func (.yield l) #[] #[]] 221)
 refine callsIn_of_wp Tryz.func179 rfl trivial ?_ rfl
 simp only [Tryz.ntmps179, List.size_toArray, List.length_cons, List.length_nil, Nat.reduceAdd, Nat.reduceSub, Array.replicate_succ, Array.replicate_zero, List.push_toArray, List.append_toArray, List.nil_append, List.cons_append]
 gi_wp2_with fail
 refine bodyPost_ret (results_none rfl _ _ _) rfl ⟨⟨_, rfl⟩, by simp, ⟨L, G, F⟩, c0, hA2, [], ⟨rfl, rfl⟩, hJ1⟩
theorem walk14_nil {wb : World} (w0 w : World) (L : List (Nat × List Value)) (G : List Gs) (F : List (World → Prop)) (most : Nat)
  (hw : Wk w0 wb w L G F) (hmm : most ≤ 1000) :
  Calls Tryz.prog 57 #[.pointer none, .int .i64 (most : Int)] w fun e w' => e = .returned (.slice none 0 0) ∧ Wk w0 wb w' L G F := by
 have HA := hH hw
 clear hw
 have hfn := fun (w : World) (x y : Array Value) => run_eql_func_nil (P := Tryz.prog) w 172 Tryz.underlying172 (.func 179) x y
 refine (callsIn_wide (n := 6)).1 (callsIn_of_wp_marks Tryz.func57 rfl trivial ?_ rfl)
 simp only [Tryz.ntmps57, List.size_toArray, List.length_cons, List.length_nil, Nat.reduceAdd, Nat.reduceSub, Array.replicate_succ, Array.replicate_zero, List.push_toArray, List.append_toArray, List.nil_append, List.cons_append]
 refine wpIn_wide.2 ?_
 go_wp2_with fail
 refine (chain_records_any _ _).mono ?_
 rintro en w1 ⟨rfl, rfl⟩
 go_wp2_with fail
 obtain ⟨b3, h3⟩ : ∃ k, k = w.heap.size := ⟨_, rfl⟩
 have hs1 : (w.alloc (.cells #[.int .i64 (most : Int)] 3)).heap.size = w.heap.size + 1 := by simp
 have hs2 : ((w.alloc (.cells #[.int .i64 (most : Int)] 3)).alloc (.cells #[.pointer none] 113)).heap.size = w.heap.size + 1 + 1 := by simp
 have hw2 := ((HA.out.newB #[.int .i64 (most : Int)] 3 rfl).newB #[.pointer none] 113 hs1).newB #[.slice none 0 0] 115 hs2
 generalize hz : ((w.alloc (.cells #[.int .i64 (most : Int)] 3)).alloc (.cells #[.pointer none] 113)).alloc (.cells #[.slice none 0 0] 115) = w2 at *
 rw [← h3] at hw2 ⊢
 have HW2 := hH hw2
 obtain ⟨bS, hbS⟩ : ∃ k, k = b3 + 1 := ⟨_, rfl⟩
 rw [← hbS] at HW2 ⊢
 obtain ⟨b6, hb6⟩ : ∃ k, k = bS + 1 := ⟨_, rfl⟩
 rw [← hb6] at HW2 ⊢
 have hbw : wb.heap.size ≤ w2.heap.size := HW2.out.hs
 clear hw2 hz h3 hbS hb6 hs1 hs2 HA
 refine (wpIn_wide (n := 6)).1 ?_
 refine wpIn_rangeFunc_W (F := Fence.wide) (n := 6) rfl (by decide) (gf := 179) (lb := #[.pointer (some ⟨bS, 0, none⟩)]) rfl trivial (enters_of Tryz.func179 (by kernel_rfl) rfl)
  (φ0 := ⟨(bS, [.pointer none]) :: L, G, F⟩) (c0 := ⟨[(b6, [.slice none 0 0])], [], []⟩) (fun W1 _ => chrec1_nil w0 W1 bS ((bS, [.pointer none]) :: L) G F (6 - 1) (by decide) List.mem_cons_self) (fun _ => rfl)
  (fun pe xs c W => pe = none ∧ c = ⟨[(b6, [.slice none 0 0])], [], []⟩ ∧ Kb wb.heap.size wb W) (fun _ _ _ _ _ => False) ?hJ (fun _ _ _ _ _ _ h => h.elim) ⟨rfl, rfl, HW2.out.kb⟩ ?h0 ?assign ?body ?done ?stop
 case h0 =>
  show Wc w0 w2 ((bS, [.pointer none]) :: (L ++ [(b6, [.slice none 0 0])])) (G ++ []) (F ++ [])
  rw [List.append_nil, List.append_nil]
  exact ((HW2.out.sub (L' := (b6, [.slice none 0 0]) :: (bS, [.pointer none]) :: L) (.cons_cons _ (.cons_cons _ (.cons _ (List.Sublist.refl _)))) (fun f hf => hf)).perm ((List.Perm.swap _ _ _).trans ((List.perm_append_comm (l₁ := [(b6, [.slice none 0 0])]) (l₂ := L)).cons _)) (List.Perm.refl _)).toWc
 case hJ =>
  rintro pe xs c X Y ⟨h1, h2, h3⟩ hb
  exact ⟨h1, h2, h3.trans (hb.mono hbw)⟩
 case assign =>
  intro lr pre x φ c W1 K hpre
  exact hpre.elim
 case body =>
  intro lr pre x φ c a' W1 hpre
  exact hpre.elim
 case stop =>
  rintro D cd pre φ c W1 hD hfix
  exact hfix.elim
 rintro D xs φ c W1 hD ⟨rfl, rfl⟩ ⟨-, rfl, hkb⟩ hat hK hsz
 have HF := hH (Wk.start hat.flip)
 have c6 := Kn.own1 (HF.out.boxi 0 rfl)
 clear hat
 go_wp2_with fail
 refine marks_ret1 (v := .slice none 0 0) (D := D) hK (by kernel_rfl) rfl ?_
 have hw := HF.out.toWc.putObj (.deferred none) hK rfl (Nat.le_trans HW2.out.only.size hD)
 simp only [List.append_nil, List.nil_append] at hw
 exact ⟨rfl, hw.sub (L' := L) (.cons _ (.cons _ (List.Sublist.refl _))) (fun f hf => hf), hkb.trans (kb_putObj _ _ (Nat.le_trans hbw hD))⟩
end Go.Proofs.YtgcfdjcpcclcjaaGreat
namespace Go.Proofs.YtgcfdjcpcclcjaaGreat
open Go Go.RowKit Go.Kn
theorem desk14_any (w0 w : World) (cf : Cf) (c : Fr3) (h : Wc w0 w c.L c.G c.F) (hc : cf.Ok) : Calls Tryz.prog 54 #[.agg #[.int .i64 cf.b, .int .i64 cf.s, .int .i64 cf.l]] w (DeskSays w0 cf c) := by
 have H := hH (h.newB #[.int .i64 cf.b, .int .i64 cf.s, .int .i64 cf.l] 25 rfl)
 obtain ⟨g1, g2, g3⟩ := Cf.sec cf hc 0 (by decide) (by have := hc.2.1; omega)
 have hl := hc.2.2
 have HC := hH hc
 obtain ⟨n, hn⟩ : ∃ n : Nat, cf.sectors.toNat = n := ⟨_, rfl⟩
 have hsn : cf.sectors = (n : Int) := by omega
 have HN := hH hn
 have HSN := hH hsn
 have hn1 : 1 ≤ n ∧ n ≤ 4096 := by omega
 obtain ⟨hn1, hn2⟩ := hn1
 clear h hc hn hsn g1 g2 g3
 go_enter Tryz.func54, Tryz.ntmps54
 go_wp2_with fail
 refine (geom_new_any cf.b cf.s cf.l _ HC.out).mono ?_
 rintro en w1 ⟨gb, rfl, hgb, hgeo, hO⟩
 have hfc : Fc w1 (fun k => k < (w.alloc (.cells #[.int .i64 cf.b, .int .i64 cf.s, .int .i64 cf.l] 25)).heap.size) (fun W => GeoAt W gb cf.b cf.s cf.l) := fc_geo hgeo (by omega)
 have HW := hH (H.out.addFc hO hfc)
 clear hgb hgeo hO hfc H
 generalize w.heap.size = f1 at *
 have b1 := HW.out.boxi 0 rfl
 obtain ⟨e0, e1, e2⟩ := Kn.own3 b1
 clear b1
 go_wp2_with fail
 refine (ref_sectors_any cf _ HC.out).mono ?_
 rintro en w2 ⟨rfl, hO⟩
 rw [HSN.out]
 have HW2 := hH (HW.out.keep0 hO)
 clear hO HW e0 e1 e2
 go_wp2_with fail
 refine (kit_two_any w0 w2 n ⟨(f1, [.int .i64 cf.b, .int .i64 cf.s, .int .i64 cf.l]) :: c.L, c.G, (fun W => GeoAt W gb cf.b cf.s cf.l) :: c.F⟩ HW2.out hn1 hn2).mono ?_
 rintro en w3 ⟨p, r, rfl, hpn, hrn, hd⟩
 have HD := hH hd.ldrop
 have HPN := hH hpn
 clear hd HW2 hpn hrn
 go_wp2_with fail
 refine bodyPost_ret (v := .tuple #[.pointer (some ⟨p.D, 0, none⟩), .pointer (some ⟨r.M, 0, none⟩), .pointer (some ⟨gb, 0, none⟩), .bool true]) (by kernel_rfl) rfl ⟨p, r, gb, rfl, ?_⟩
 rw [HN.out]
 exact HD.out
section
variable {w0 w : World} {p : PD} {r : RD} {d e : Dk} {L : List (Nat × List Value)} {G : List Gs} {F : List (World → Prop)} {C gb : Nat} {q en : Ps} {er : Int}
theorem duo_chnew (h : Duo w0 w p r d e ⟨L, G, F⟩) (gb : Nat) (q : Ps) :
  Calls Tryz.prog 56 #[.pointer (some ⟨p.D, 0, none⟩), .pointer (some ⟨gb, 0, none⟩), .agg #[.int .i64 q.s, .int .i64 q.o, .int .i64 q.l, .int .i64 q.p, .int .i64 q.m]] w fun en w' => ∃ C, en = .returned (.pointer (some ⟨C, 0, none⟩)) ∧ Duo w0 w' p r d e ⟨(C, CB p.D gb q q 0) :: L, G, F⟩ := by
 obtain ⟨L0, G0, F0, hw, -, back⟩ := h.dk
 refine (chain_new_any w0 w p.D gb q _ _ _ (Wk.start hw)).mono ?_
 rintro en w1 ⟨C, rfl, hw1⟩
 exact ⟨C, rfl, back w1 ⟨(C, CB p.D gb q q 0) :: L, G, F⟩ hw1.toWc⟩
theorem duo_chend (h : Duo w0 w p r d e ⟨L, G, F⟩) (hC : (C, CB p.D gb q en er) ∈ L) :
  Calls Tryz.prog 58 #[.pointer (some ⟨C, 0, none⟩)] w fun e' w' => e' = .returned (.agg #[.int .i64 en.s, .int .i64 en.o, .int .i64 en.l, .int .i64 en.p, .int .i64 en.m]) ∧ Only [] w w' := chain_end_any w C p.D gb q en er (h.box hC)
theorem duo_cherr (h : Duo w0 w p r d e ⟨L, G, F⟩) (hC : (C, CB p.D gb q en er) ∈ L) :
  Calls Tryz.prog 59 #[.pointer (some ⟨C, 0, none⟩)] w fun e' w' => e' = .returned (.int .i64 er) ∧ w = w' := chain_err_any w C p.D gb q en er (h.box hC)
def DWk (w0 : World) (p : PD) (r : RD) (d e : Dk) (C gb : Nat) (q : Ps) (L : List (Nat × List Value)) (G : List Gs) (F : List (World → Prop)) (x : List (Ps × Rc) × Ps × Int) (en : Ending) (w' : World) : Prop :=
 ∃ (xs : List Fnd) (A : Option Addr) (c : Nat) (fs : List (World → Prop)), en = .returned (.slice A xs.length c) ∧ xs.map Fnd.pr = x.1 ∧ (∀ y ∈ xs, y.fct ∈ fs) ∧
  Duo w0 w' p r d e ⟨(C, CB p.D gb q x.2.1 x.2.2) :: L, ⟨118, 10, .slice A xs.length c, xs.length, rfndV xs⟩ :: G, fs ++ F⟩
theorem duo_walk14 {cf : Cf} (h : Duo w0 w p r d e ⟨(C, CB p.D gb q en er) :: L, G, F⟩) (hg : (fun W => GeoAt W gb cf.b cf.s cf.l) ∈ F) (hc : cf.Ok) (most : Nat) (hm : (chainR d cf q).1.length ≤ most) (hmm : most ≤ 1000) :
  Calls Tryz.prog 57 #[.pointer (some ⟨C, 0, none⟩), .int .i64 (most : Int)] w (DWk w0 p r d e C gb q L G F (chainR d cf q)) := by
 obtain ⟨L0, G0, F0, hw, hd, back⟩ := h.dk
 refine (walk14_any w0 w C gb p d cf q en er _ (L ++ L0) (G ++ G0) (F ++ F0) most (Wk.start hw) (hd.mono (fun x hx => List.mem_append_right _ hx)) (List.mem_append_left _ hg) hc (chEnds_some_k d cf q) hm hmm).mono ?_
 rintro en w1 ⟨xs, A, c, fs, rfl, hxs, hfs, hw1⟩
 exact ⟨xs, A, c, fs, rfl, hxs, hfs, back w1 ⟨_ :: L, _ :: G, fs ++ F⟩ (by have := hw1.toWc; rw [← List.append_assoc] at this; exact this)⟩
theorem duo_walk14_nil {c : Fr3} (h : Duo w0 w p r d e c) (most : Nat) (hmm : most ≤ 1000) : Calls Tryz.prog 57 #[.pointer none, .int .i64 (most : Int)] w fun en w' => en = .returned (.slice none 0 0) ∧ Duo w0 w' p r d e c := by
 obtain ⟨L0, G0, F0, hw, back⟩ := h.fr
 refine (walk14_nil w0 w _ _ _ most (Wk.start hw) hmm).mono ?_
 rintro en w1 ⟨rfl, h1⟩
 exact ⟨rfl, back w1 c h1.toWc⟩
end
end Go.Proofs.YtgcfdjcpcclcjaaGreat
namespace Go.Proofs.YtgcfdjcpcclcjaaGreat
open Go Go.RowKit Go.Kn
theorem laid14_any (w0 w : World) (p : PD) (r : RD) (d : Dk) (c : Fr3) (cf : Cf) (q : Ps) (A : Option Addr) (n cc : Nat) (l : List PR) (ss : List ((Option Addr × Nat × Nat) × List (Option Addr × Nat × Nat))) (h : Duo w0 w p r d d c) (hk : (fun W => Prts W A n cc l ss) ∈ c.F) (hl : ∀ x ∈ l, x.Ok) (hn : n ≤ 8) (hc : cf.Ok) (hq : headMay q.head = true) (hs : q.s ≤ cf.s - 1) (hm : q.m ≤ 2097152) (hll : q.l ≤ 2097152) (hlv : d.Live) (hh : d.held = []) :
  Calls Tryz.prog 63 #[.pointer (some ⟨p.D, 0, none⟩), .pointer (some ⟨r.M, 0, none⟩), .agg #[.int .i64 cf.b, .int .i64 cf.s, .int .i64 cf.l], .agg #[.int .i64 q.s, .int .i64 q.o, .int .i64 q.l, .int .i64 q.p, .int .i64 q.m], .slice A n cc] w (LogSays w0 p r c (laidRun cf l q d)) := by
 have hres : Tryz.f63.results = #[.cell 10 32, .tmp 11] := by kernel_rfl
 have HRES := hH hres
 have hpr := h.fact hk
 have hlen := hpr.len
 have hle := hpr.le
 have hcm := hpr.cm
 unfold maxLen at hcm
 have hqb := headMay_iff.1 hq
 simp only [Ps.head] at hqb
 obtain ⟨hb1, hb2, hb3, hb4⟩ := hqb
 have hok : LdOk cf 0 ⟨q.s, 1, q.l, q.p, q.m⟩ (d.puts (cf.at_ q.s) (headB q)) := by
  refine ⟨⟨⟨by show -1000000000000 ≤ q.m ∧ q.m ≤ 1000000000000; omega, by show -1000000000000 ≤ q.l ∧ q.l ≤ 1000000000000; omega, by show -1000000000000 ≤ q.p ∧ q.p ≤ 1000000000000; omega⟩, ⟨hb1.1, hs⟩, by show (0 : Int) ≤ 1 ∧ (1 : Int) ≤ 64; decide⟩, by show (1 : Int) ≤ 1; decide, ⟨hb2.1, by show q.m ≤ _; omega⟩, ⟨hb3.1, by show q.l ≤ _; omega⟩, hb4, (hlv.puts _ _).1, (hlv.puts _ _).2⟩
 have HL := hH hlen
 have HK := hH hk
 have HOK := hH hl
 have HC := hH hc
 have HQ := hH hq
 have HLD0 := hH hok
 obtain ⟨d1, hd1⟩ : ∃ x, x = d.puts (cf.at_ q.s) (headB q) := ⟨_, rfl⟩
 rw [← hd1] at HLD0
 have HD1 := hH hd1
 have hs1 : (w.alloc (.cells #[.int .i64 cf.b, .int .i64 cf.s, .int .i64 cf.l] 25)).heap.size = w.heap.size + 1 := by simp
 have hs2 : ((w.alloc (.cells #[.int .i64 cf.b, .int .i64 cf.s, .int .i64 cf.l] 25)).alloc (.cells #[.int .i64 q.s, .int .i64 q.o, .int .i64 q.l, .int .i64 q.p, .int .i64 q.m] 32)).heap.size = w.heap.size + 1 + 1 := by simp
 have H := hH (((h.newB #[.int .i64 cf.b, .int .i64 cf.s, .int .i64 cf.l] 25 rfl).newB #[.int .i64 q.s, .int .i64 q.o, .int .i64 q.l, .int .i64 q.p, .int .i64 q.m] 32 hs1).newB #[.int .i64 0, .int .i64 0, .int .i64 0, .int .i64 0, .int .i64 0] 32 hs2)
 clear h hres hpr hlen hk hl hc hq hlv hb1 hb2 hb3 hb4 hok hd1
 go_enter Tryz.func63, Tryz.ntmps63
 go_upto_region 1 with (fail)
 (try rw [hs2])
 (try rw [hs1])
 generalize hz1 : ((w.alloc (.cells #[.int .i64 cf.b, .int .i64 cf.s, .int .i64 cf.l] 25)).alloc (.cells #[.int .i64 q.s, .int .i64 q.o, .int .i64 q.l, .int .i64 q.p, .int .i64 q.m] 32)).alloc (.cells #[.int .i64 0, .int .i64 0, .int .i64 0, .int .i64 0, .int .i64 0] 32) = w1 at *
 clear hz1 hs1 hs2
 generalize w.heap.size = fb at *
 generalize fb + 1 = fp at *
 generalize fp + 1 = fo at *
 obtain ⟨p0, p1, p2, p3, p4⟩ := own5 (H.out.box (x := (fp, [.int .i64 q.s, .int .i64 q.o, .int .i64 q.l, .int .i64 q.p, .int .i64 q.m])) (by simp))
 obtain ⟨e0, e1, e2⟩ := own3 (H.out.box (x := (fb, [.int .i64 cf.b, .int .i64 cf.s, .int .i64 cf.l])) (by simp))
 go_wp2_with fail
 refine (kit_head_any w0 _ p r _ _ cf q H.out HC.out HQ.out hs (by rw [hh]; simp)).mono ?_
 rintro en w2 ⟨rfl, hd⟩
 rw [← HD1.out] at hd
 have H2 := hH hd
 clear hd H p0 p1 p2 p3 p4 e0 e1 e2 hs hh
 have hfr := (H2.out.box (x := (fp, [.int .i64 q.s, .int .i64 q.o, .int .i64 q.l, .int .i64 q.p, .int .i64 q.m])) (by simp)).frozen 1
 have hlt := (H2.out.box (x := (fp, [.int .i64 q.s, .int .i64 q.o, .int .i64 q.l, .int .i64 q.p, .int .i64 q.m])) (by simp)).lt
 obtain ⟨p0, p1, p2, p3, p4⟩ := own5 (H2.out.box (x := (fp, [.int .i64 q.s, .int .i64 q.o, .int .i64 q.l, .int .i64 q.p, .int .i64 q.m])) (by simp))
 go_upto_region 3 with (fail)
 have H3 := hH (H2.out.put 1 (b := fp) (cs := [.int .i64 q.s, .int .i64 q.o, .int .i64 q.l, .int .i64 q.p, .int .i64 q.m]) rfl 1 (.int .i64 1))
 simp only [List.set_cons_zero, List.set_cons_succ] at H3
 generalize w2.setCell ⟨fp, 1, none⟩ (.int .i64 1) = w3 at *
 clear hfr hlt H2 p0 p1 p2 p3 p4
 have HG0 : Hid (laidGo cf l ⟨q.s, 1, q.l, q.p, q.m⟩ d1 = laidRun cf l q d) := hH (by unfold laidRun; rw [HD1.out])
 have H4 : Hid (Duo w0 w3 p r d1 d1 ⟨(fo, [.int .i64 0, .int .i64 0, .int .i64 0, .int .i64 0, .int .i64 0]) :: (fp, [.int .i64 (⟨q.s, 1, q.l, q.p, q.m⟩ : Ps).s, .int .i64 (⟨q.s, 1, q.l, q.p, q.m⟩ : Ps).o, .int .i64 (⟨q.s, 1, q.l, q.p, q.m⟩ : Ps).l, .int .i64 (⟨q.s, 1, q.l, q.p, q.m⟩ : Ps).p, .int .i64 (⟨q.s, 1, q.l, q.p, q.m⟩ : Ps).m]) :: (fb, [.int .i64 cf.b, .int .i64 cf.s, .int .i64 cf.l]) :: c.L, c.G, c.F⟩) := hH H3.out
 clear H3
 go_wp2_with fail
 go_loopg [12, 13] n (fun gr t12 i wr => ∃ (j : Nat) (qj : Ps) (dj : Dk), j + gr = n ∧ t12 = .bool true ∧ i = .int .i64 j ∧ laidGo cf (l.drop j) qj dj = laidRun cf l q d ∧ LdOk cf (61 * (j : Int)) qj dj ∧ Duo w0 wr p r dj dj ⟨(fo, [.int .i64 0, .int .i64 0, .int .i64 0, .int .i64 0, .int .i64 0]) :: (fp, [.int .i64 qj.s, .int .i64 qj.o, .int .i64 qj.l, .int .i64 qj.p, .int .i64 qj.m]) :: (fb, [.int .i64 cf.b, .int .i64 cf.s, .int .i64 cf.l]) :: c.L, c.G, c.F⟩)
 case atStart => exact ⟨0, _, d1, by omega, rfl, rfl, HG0.out, HLD0.out, H4.out⟩
 obtain ⟨j, qj, dj, hj, rfl, rfl, hrun, hld, hd⟩ := hrel
 have HRUN := hH hrun
 have HLD := hH hld
 have HD := hH hd
 clear hrun hld hd HG0 HLD0 H4
 by_cases hlt : j < n
 ·have hjl : j < l.length := by rw [HL.out]; exact hlt
  have hpr := HD.out.fact (f := (fun W => Prts W A n cc l ss)) HK.out
  have hjs : j < ss.length := by rw [hpr.sl]; exact hlt
  obtain ⟨g, o, rfl, -⟩ := hpr.at_ (by omega)
  have HCL : Hid (∀ w' : World, Prts w' (some ⟨g, o, none⟩) n cc l ss → (w'.cell? ⟨g, o + j * 3, none⟩ = some (slv ss[j].1) ∧ w'.cell? ⟨g, o + j * 3 + 1, none⟩ = some (.int .i64 l[j].next) ∧ w'.cell? ⟨g, o + j * 3 + 2, none⟩ = some (.bool l[j].lost))) := hH (fun w' hw' => by
   obtain ⟨g', o', e, hc'⟩ := hw'.at_ (by omega)
   injection e with e
   injection e with e1 e2
   subst e1 e2
   exact hc' j hjl hjs)
  have HKR : Hid (∀ w' : World, Prts w' (some ⟨g, o, none⟩) n cc l ss → Krs w' ss[j].1.1 ss[j].1.2.1 ss[j].1.2.2 l[j].recs ss[j].2) := hH (fun w' hw' => hw'.ks j hjl hjs)
  have hdr : l.drop j = l[j] :: l.drop (j + 1) := List.drop_eq_getElem_cons hjl
  have hxo := HOK.out l[j] (List.getElem_mem _)
  obtain ⟨⟨⟨s1, s2, s3⟩, s4⟩, hss⟩ : ∃ s, ss[j] = s := ⟨_, rfl⟩
  obtain ⟨x, hx⟩ : ∃ x, l[j] = x := ⟨_, rfl⟩
  rw [hx, hss] at HCL HKR
  rw [hx] at hdr hxo
  rw [hdr] at HRUN
  simp only [slv] at HCL HKR
  obtain ⟨q2, d2, hlog⟩ : ∃ q2 d2, logRun cf x.recs qj dj = (q2, d2) := ⟨_, _, rfl⟩
  obtain ⟨hld2, hq2s⟩ := HLD.out.log HC.out x.recs
  rw [hlog] at hld2 hq2s
  simp only at hld2 hq2s
  have hxn := hxo.n
  have HLOG := hH hlog
  have HLD2 : Hid (LdOk cf (61 * (j : Int) + 60) q2 d2) := hH (by
   have a := hld2
   exact ⟨a.ps, a.o, ⟨a.m.1, by have := a.m.2; omega⟩, ⟨a.l.1, by have := a.l.2; omega⟩, a.p, a.lv, a.hh⟩)
  have HXO := hH hxo
  have hlt2 : (j : Int) < (n : Int) := by omega
  have hwn := IntWalk.i64_in ((n : Int) - 1) (by omega)
  have HDN : Hid (l.drop (j + 1) = [] ↔ j + 1 = n) := hH (by rw [List.drop_eq_nil_iff, HL.out]; omega)
  have HD0 := hH HD.out
  clear HD hjl hpr hjs hdr hxo hss hx hlog hld2 hq2s hxn
  go_wp2_with fail
  go_cut [12, 13, 14, 15] (fun t12 t13 t14 t15 wz => ∃ fr : Nat, t12 = .bool true ∧ t13 = .int .i64 j ∧ t14 = .pointer (some ⟨fr, 0, none⟩) ∧ t15 = .bool true ∧ Duo w0 wz p r d2 d2 ⟨(fr, [.int .i64 q2.s, .int .i64 q2.o, .int .i64 q2.l, .int .i64 q2.p, .int .i64 q2.m]) :: (fo, [.int .i64 0, .int .i64 0, .int .i64 0, .int .i64 0, .int .i64 0]) :: (fp, [.int .i64 qj.s, .int .i64 qj.o, .int .i64 qj.l, .int .i64 qj.p, .int .i64 qj.m]) :: (fb, [.int .i64 cf.b, .int .i64 cf.s, .int .i64 cf.l]) :: c.L, c.G, c.F⟩)
  case first =>
   have HY := hH HD0.out.drew
   clear HD0
   refine wp_region_held_drew (S := (fun w' => (Kn.Own w' fp [.int .i64 qj.s, .int .i64 qj.o, .int .i64 qj.l, .int .i64 qj.p, .int .i64 qj.m] ∧ Kn.Own w' fb [.int .i64 cf.b, .int .i64 cf.s, .int .i64 cf.l]) ∧ Prts w' (some ⟨g, o, none⟩) n cc l ss)) (by kernel_rfl) ⟨⟨HY.out.box (x := (fp, [.int .i64 qj.s, .int .i64 qj.o, .int .i64 qj.l, .int .i64 qj.p, .int .i64 qj.m])) (by simp), HY.out.box (x := (fb, [.int .i64 cf.b, .int .i64 cf.s, .int .i64 cf.l])) (by simp)⟩, HY.out.fact (f := (fun W => Prts W (some ⟨g, o, none⟩) n cc l ss)) (by first | exact HK.out | exact mc _ HK.out)⟩ (fun hSw0 => ?_)
   generalize wr.drew = ws at *
   refine tS 0 29 ?_
   refine tS 1 30 ?_
   refine tS 2 31 (v := (.agg #[.int .i64 cf.b, .int .i64 cf.s, .int .i64 cf.l])) (hy := fun w hSw => by
    have q0 := hSw.1.2
    obtain ⟨q00, q01, q02⟩ := Kn.own3 q0
    clear q0
    go_simp) ?_
   refine tS 3 32 (v := (.agg #[.int .i64 qj.s, .int .i64 qj.o, .int .i64 qj.l, .int .i64 qj.p, .int .i64 qj.m])) (hy := fun w hSw => by
    have q0 := hSw.1.1
    obtain ⟨q00, q01, q02, q03, q04⟩ := Kn.own5 q0
    clear q0
    go_simp) ?_
   refine tS 4 33 ?_
   refine tS 5 34 ?_
   refine tS 6 35 ?_
   refine tS 7 36 ?_
   refine tS 8 37 (v := (.slice s1 s2 s3)) (hy := fun w hSw => by
    have q0 := (HCL.out _ hSw.2).1
    go_simp) ?_
   refine wpAnyH_ready (rs := [9, 13]) (by kernel_rfl) (by simp) ?_
   refine AllReadyH.cons (o := ⟨some 38, _, _, _, _, _⟩) rfl (fun K hK => ?_) ?_
   ·go_simp
    refine (kit_log_any w0 _ p r dj _ cf qj s1 s2 s3 x.recs s4 (HY.out.imp (f1 := (fun W => Prts W (some ⟨g, o, none⟩) n cc l ss)) (f := fun W => Krs W s1 s2 s3 x.recs s4) HK.out HKR.out) List.mem_cons_self HXO.out.wf HC.out HLD.out.ps HLD.out.lv HLD.out.hh).mono ?_
    rw [HLOG.out]
    rintro en wb ⟨rfl, hd⟩
    have HYc := hH (Duo.subF hd (F' := c.F) (fun f hf => mc _ hf))
    clear hd HY
    refine hK.out _ _ ⟨⟨HYc.out.box (x := (fp, [.int .i64 qj.s, .int .i64 qj.o, .int .i64 qj.l, .int .i64 qj.p, .int .i64 qj.m])) (by simp), HYc.out.box (x := (fb, [.int .i64 cf.b, .int .i64 cf.s, .int .i64 cf.l])) (by simp)⟩, HYc.out.fact (f := (fun W => Prts W (some ⟨g, o, none⟩) n cc l ss)) (by first | exact HK.out | exact mc _ HK.out)⟩ (fun hSn => ?_)
    clear hK K hSw0
    have hSw0 := hSn
    clear hSn
    refine tS 10 28 ?_
    refine tS 11 39 ?_
    refine tS 12 40 ?_
    refine tR 13 14 fun K hK => ?_
    go_simp
    have HYac := hH ((HYc.out).newB #[.int .i64 0, .int .i64 0, .int .i64 0, .int .i64 0, .int .i64 0] 32 rfl)
    clear HYc
    generalize wb.heap.size = fr at *
    generalize hvb : wb.alloc (.cells #[.int .i64 0, .int .i64 0, .int .i64 0, .int .i64 0, .int .i64 0] 32) = vb at *
    clear hvb
    refine hK.out _ _ ⟨⟨HYac.out.box (x := (fp, [.int .i64 qj.s, .int .i64 qj.o, .int .i64 qj.l, .int .i64 qj.p, .int .i64 qj.m])) (by simp), HYac.out.box (x := (fb, [.int .i64 cf.b, .int .i64 cf.s, .int .i64 cf.l])) (by simp)⟩, HYac.out.fact (f := (fun W => Prts W (some ⟨g, o, none⟩) n cc l ss)) (by first | exact HK.out | exact mc _ HK.out)⟩ (fun hSn => ?_)
    clear hK K hSw0
    have hSw0 := hSn
    clear hSn
    refine Kn.takeR 14 ⟨none, _, _, _, _, _⟩ fun K hK => ?_
    refine step_store_own rfl 32 (.tmp 14) (.tmp 39) rfl fr [.int .i64 0, .int .i64 0, .int .i64 0, .int .i64 0, .int .i64 0] [.int .i64 q2.s, .int .i64 q2.o, .int .i64 q2.l, .int .i64 q2.p, .int .i64 q2.m] (by kernel_rfl) rfl rfl (HYac.out.box (x := (fr, [.int .i64 0, .int .i64 0, .int .i64 0, .int .i64 0, .int .i64 0])) (by simp)) rfl (by intro u hu; simp at hu; rcases hu with rfl | rfl | rfl | rfl | rfl <;> rfl) ?_
    intro w9 ho9 hO9
    have HY3 := hH (HYac.out.head ho9 hO9)
    clear ho9 hO9 HYac
    refine hK.out _ _ ⟨⟨HY3.out.box (x := (fp, [.int .i64 qj.s, .int .i64 qj.o, .int .i64 qj.l, .int .i64 qj.p, .int .i64 qj.m])) (by simp), HY3.out.box (x := (fb, [.int .i64 cf.b, .int .i64 cf.s, .int .i64 cf.l])) (by simp)⟩, HY3.out.fact (f := (fun W => Prts W (some ⟨g, o, none⟩) n cc l ss)) (by first | exact HK.out | exact mc _ HK.out)⟩ (fun hSn => ?_)
    clear hK K hSw0
    have hSw0 := hSn
    clear hSn
    refine tS 15 15 ?_
    refine tD ?_ _
    clear hSw0
    go_wp2
    go_meet
    case rel => exact ⟨fr, rfl, rfl, rfl, rfl, HY3.out⟩
   refine AllReadyH.cons (o := ⟨some 14, _, _, _, _, _⟩) rfl (fun K hK => ?_) ?_
   ·go_simp
    have HYa := hH ((HY.out).newB #[.int .i64 0, .int .i64 0, .int .i64 0, .int .i64 0, .int .i64 0] 32 rfl)
    clear HY
    generalize ws.heap.size = fr at *
    generalize hvb : ws.alloc (.cells #[.int .i64 0, .int .i64 0, .int .i64 0, .int .i64 0, .int .i64 0] 32) = vb at *
    clear hvb
    refine hK.out _ _ ⟨⟨HYa.out.box (x := (fp, [.int .i64 qj.s, .int .i64 qj.o, .int .i64 qj.l, .int .i64 qj.p, .int .i64 qj.m])) (by simp), HYa.out.box (x := (fb, [.int .i64 cf.b, .int .i64 cf.s, .int .i64 cf.l])) (by simp)⟩, HYa.out.fact (f := (fun W => Prts W (some ⟨g, o, none⟩) n cc l ss)) (by first | exact HK.out | exact mc _ HK.out)⟩ (fun hSn => ?_)
    clear hK K hSw0
    have hSw0 := hSn
    clear hSn
    refine tR 9 38 fun K hK => ?_
    go_simp
    refine (kit_log_any w0 _ p r dj _ cf qj s1 s2 s3 x.recs s4 (HYa.out.imp (f1 := (fun W => Prts W (some ⟨g, o, none⟩) n cc l ss)) (f := fun W => Krs W s1 s2 s3 x.recs s4) HK.out HKR.out) List.mem_cons_self HXO.out.wf HC.out HLD.out.ps HLD.out.lv HLD.out.hh).mono ?_
    rw [HLOG.out]
    rintro en wb ⟨rfl, hd⟩
    have HYca := hH (Duo.subF hd (F' := c.F) (fun f hf => mc _ hf))
    clear hd HYa
    refine hK.out _ _ ⟨⟨HYca.out.box (x := (fp, [.int .i64 qj.s, .int .i64 qj.o, .int .i64 qj.l, .int .i64 qj.p, .int .i64 qj.m])) (by simp), HYca.out.box (x := (fb, [.int .i64 cf.b, .int .i64 cf.s, .int .i64 cf.l])) (by simp)⟩, HYca.out.fact (f := (fun W => Prts W (some ⟨g, o, none⟩) n cc l ss)) (by first | exact HK.out | exact mc _ HK.out)⟩ (fun hSn => ?_)
    clear hK K hSw0
    have hSw0 := hSn
    clear hSn
    refine tS 10 28 ?_
    refine tS 11 39 ?_
    refine tS 12 40 ?_
    refine Kn.takeR 14 ⟨none, _, _, _, _, _⟩ fun K hK => ?_
    refine step_store_own rfl 32 (.tmp 14) (.tmp 39) rfl fr [.int .i64 0, .int .i64 0, .int .i64 0, .int .i64 0, .int .i64 0] [.int .i64 q2.s, .int .i64 q2.o, .int .i64 q2.l, .int .i64 q2.p, .int .i64 q2.m] (by kernel_rfl) rfl rfl (HYca.out.box (x := (fr, [.int .i64 0, .int .i64 0, .int .i64 0, .int .i64 0, .int .i64 0])) (by simp)) rfl (by intro u hu; simp at hu; rcases hu with rfl | rfl | rfl | rfl | rfl <;> rfl) ?_
    intro w9 ho9 hO9
    have HY3 := hH (HYca.out.head ho9 hO9)
    clear ho9 hO9 HYca
    refine hK.out _ _ ⟨⟨HY3.out.box (x := (fp, [.int .i64 qj.s, .int .i64 qj.o, .int .i64 qj.l, .int .i64 qj.p, .int .i64 qj.m])) (by simp), HY3.out.box (x := (fb, [.int .i64 cf.b, .int .i64 cf.s, .int .i64 cf.l])) (by simp)⟩, HY3.out.fact (f := (fun W => Prts W (some ⟨g, o, none⟩) n cc l ss)) (by first | exact HK.out | exact mc _ HK.out)⟩ (fun hSn => ?_)
    clear hK K hSw0
    have hSw0 := hSn
    clear hSn
    refine tS 15 15 ?_
    refine tD ?_ _
    clear hSw0
    go_wp2
    go_meet
    case rel => exact ⟨fr, rfl, rfl, rfl, rfl, HY3.out⟩
   exact AllReadyH.nil
  obtain ⟨fr, rfl, rfl, rfl, rfl, hd⟩ := hcut
  have HY := hH hd
  clear hd HD0
  obtain ⟨x0, x1, x2, x3, x4⟩ := own5 (HY.out.boxi 0 rfl)
  have b := HY.out.box (x := (fp, [.int .i64 qj.s, .int .i64 qj.o, .int .i64 qj.l, .int .i64 qj.p, .int .i64 qj.m])) (by simp)
  have y0 := b.frozen 0
  have y1 := b.frozen 1
  have y2 := b.frozen 2
  have y3 := b.frozen 3
  have y4 := b.frozen 4
  obtain ⟨u0, u1, u2, u3, u4⟩ := Kn.own5 b
  have HY2 := hH ((HY.out.call 2 rfl (own_set5 b (.int .i64 q2.s) (.int .i64 q2.o) (.int .i64 q2.l) (.int .i64 q2.p) (.int .i64 q2.m)) (only_set5 _ fp _ _ _ _ _)).ldrop)
  simp only [List.set_cons_zero, List.set_cons_succ] at HY2
  have hlp := b.lt
  clear b HY
  go_upto_region 8 with (fail)
  generalize hz : ((((wc.setCell ⟨fp, 0, none⟩ (.int .i64 q2.s)).setCell ⟨fp, 1, none⟩ (.int .i64 q2.o)).setCell ⟨fp, 2, none⟩ (.int .i64 q2.l)).setCell ⟨fp, 3, none⟩ (.int .i64 q2.p)).setCell ⟨fp, 4, none⟩ (.int .i64 q2.m) = wk at *
  clear hz x0 x1 x2 x3 x4 y0 y1 y2 y3 y4 u0 u1 u2 u3 u4 hlp
  by_cases hlast : (j : Int) = (n : Int) - 1
  ·obtain ⟨y0, y1, y2, y3, y4⟩ := own5 (HY2.out.box (x := (fp, [.int .i64 q2.s, .int .i64 q2.o, .int .i64 q2.l, .int .i64 q2.p, .int .i64 q2.m])) (by simp))
   have z := HY2.out.box (x := (fo, [.int .i64 0, .int .i64 0, .int .i64 0, .int .i64 0, .int .i64 0])) (by simp)
   have z0 := z.frozen 0
   have z1 := z.frozen 1
   have z2 := z.frozen 2
   have z3 := z.frozen 3
   have z4 := z.frozen 4
   obtain ⟨o0, o1, o2, o3, o4⟩ := Kn.own5 z
   clear z
   have HFIN : Hid (laidGo cf (x :: l.drop (j + 1)) qj dj = (q2, d2)) := hH (by rw [HDN.out.2 (by omega), laidGo_one, HLOG.out])
   go_wp2_with fail
   have HEND := hH (Duo.subF ((HY2.out.call 0 rfl (own_set5 (HY2.out.box (x := (fo, [.int .i64 0, .int .i64 0, .int .i64 0, .int .i64 0, .int .i64 0])) (by simp)) (.int .i64 q2.s) (.int .i64 q2.o) (.int .i64 q2.l) (.int .i64 q2.p) (.int .i64 q2.m)) (only_set5 _ fo _ _ _ _ _)).ldrop.ldrop.ldrop) (F' := c.F) (fun f hf => by simp [hf]))
   (try simp only [Exit.inBlock, Exit.then])
   refine bodyPost_ret (v := .tuple #[.agg #[.int .i64 q2.s, .int .i64 q2.o, .int .i64 q2.l, .int .i64 q2.p, .int .i64 q2.m], .bool true]) ?_ rfl ?_
   ·simp only [results, HRES.out]
    go_simp
   rw [← HRUN.out, HFIN.out]
   exact ⟨rfl, HEND.out⟩
  have hne : l.drop (j + 1) ≠ [] := fun e => by have := HDN.out.1 e; omega
  have HNE := hH hne
  obtain ⟨v, hv⟩ : ∃ v, x.next % cf.s = v := ⟨_, rfl⟩
  have hs8 := HC.out.2.1
  have hvb : 0 ≤ v ∧ v ≤ cf.s - 1 := by
   have h1 := Int.emod_nonneg x.next (b := cf.s) (by omega)
   have h2 := Int.emod_lt_of_pos x.next (b := cf.s) (by omega)
   omega
  have HV := hH hv
  have HVB := hH hvb
  obtain ⟨b, hb⟩ : ∃ b, x.lost = b := ⟨_, rfl⟩
  have HB := hH hb
  rw [hb] at HCL
  obtain ⟨q3, d3, htr⟩ : ∃ q3 d3, turnRun cf v (!b) q2 d2 = (q3, d3) := ⟨_, _, rfl⟩
  have HTR := hH htr
  clear hne hv hvb hb htr
  go_wp2_with fail
  go_cut [12, 13] (fun t12 t13 wz => t12 = .bool true ∧ t13 = .int .i64 j ∧ Duo w0 wz p r d3 d3 ⟨(fo, [.int .i64 0, .int .i64 0, .int .i64 0, .int .i64 0, .int .i64 0]) :: (fp, [.int .i64 q3.s, .int .i64 q3.o, .int .i64 q3.l, .int .i64 q3.p, .int .i64 q3.m]) :: (fb, [.int .i64 cf.b, .int .i64 cf.s, .int .i64 cf.l]) :: c.L, c.G, c.F⟩)
  case first =>
   have HY := hH HY2.out.drew
   clear HY2
   refine wp_region_held_drew (S := (fun w' => Kn.Own w' fb [.int .i64 cf.b, .int .i64 cf.s, .int .i64 cf.l] ∧ Prts w' (some ⟨g, o, none⟩) n cc l ss)) (by kernel_rfl) ⟨HY.out.box (x := (fb, [.int .i64 cf.b, .int .i64 cf.s, .int .i64 cf.l])) (by simp), HY.out.fact (f := (fun W => Prts W (some ⟨g, o, none⟩) n cc l ss)) HK.out⟩ (fun hSw0 => ?_)
   generalize wk.drew = wt0 at *
   refine tS 0 58 ?_
   refine tS 1 59 ?_
   refine tS 2 60 (v := (.agg #[.int .i64 cf.b, .int .i64 cf.s, .int .i64 cf.l])) (hy := fun w hSw => by
    have q0 := hSw.1
    obtain ⟨q00, q01, q02⟩ := Kn.own3 q0
    clear q0
    go_simp) ?_
   refine tS 4 62 ?_
   refine tS 5 63 ?_
   refine tS 6 64 ?_
   refine tS 7 65 ?_
   refine tS 8 66 (v := (.int .i64 x.next)) (hy := fun w hSw => by
    have q0 := (HCL.out _ hSw.2).2.1
    go_simp) ?_
   refine tS 9 67 ?_
   refine tS 10 68 (v := (.int .i64 cf.s)) (hy := fun w hSw => by
    have q0 := hSw.1.cell 1 (by simp)
    simp only [g0, gs] at q0
    go_simp) ?_
   refine tS 12 70 ?_
   refine tS 13 71 ?_
   refine tS 14 72 ?_
   refine tS 15 73 ?_
   refine tS 16 74 (v := (.bool b)) (hy := fun w hSw => by
    have q0 := (HCL.out _ hSw.2).2.2
    go_simp) ?_
   refine tS 17 75 ?_
   refine wpAnyH_ready (rs := [3, 11]) (by kernel_rfl) (by simp) ?_
   refine AllReadyH.cons (o := ⟨some 61, _, _, _, _, _⟩) rfl (fun K hK => ?_) ?_
   ·have b1 := HY.out.box (x := (fp, [.int .i64 q2.s, .int .i64 q2.o, .int .i64 q2.l, .int .i64 q2.p, .int .i64 q2.m])) (by simp)
    obtain ⟨k0, k1, k2, k3, k4⟩ := Kn.own5 b1
    clear b1
    go_simp
    clear k0 k1 k2 k3 k4
    refine hK.out _ _ hSw0 (fun hSn => ?_)
    clear hK K hSw0
    have hSw0 := hSn
    clear hSn
    refine tR 11 69 fun K hK => ?_
    go_simp
    refine (round_any x.next cf.s _ HXO.out.next (by have := HC.out.2.1; omega) (by have := HC.out.2.1; omega)).mono ?_
    rintro en wu ⟨rfl, rfl⟩
    rw [HV.out]
    refine hK.out _ _ hSw0 (fun hSn => ?_)
    clear hK K hSw0
    have hSw0 := hSn
    clear hSn
    refine tR 18 76 fun K hK => ?_
    go_simp
    refine (kit_turn_any w0 _ p r d2 _ cf q2 v (!b) HY.out HC.out HLD2.out.ps ⟨HLD2.out.m.1, by have := HLD2.out.m.2; omega⟩ ⟨HLD2.out.l.1, by have := HLD2.out.l.2; omega⟩ HLD2.out.p HVB.out HLD2.out.lv HLD2.out.hh).mono ?_
    rw [HTR.out]
    rintro en wt ⟨rfl, hd⟩
    have HT2 := hH hd
    clear hd HY
    refine hK.out _ _ ⟨HT2.out.box (x := (fb, [.int .i64 cf.b, .int .i64 cf.s, .int .i64 cf.l])) (by simp), HT2.out.fact (f := (fun W => Prts W (some ⟨g, o, none⟩) n cc l ss)) HK.out⟩ (fun hSn => ?_)
    clear hK K hSw0
    have hSw0 := hSn
    clear hSn
    refine tS 19 57 ?_
    refine tS 20 77 ?_
    refine tS 21 78 ?_
    refine Kn.takeR 22 ⟨none, _, _, _, _, _⟩ fun K hK => ?_
    refine step_store_own rfl 32 (.tmp 8) (.tmp 77) rfl fp [.int .i64 q2.s, .int .i64 q2.o, .int .i64 q2.l, .int .i64 q2.p, .int .i64 q2.m] [.int .i64 q3.s, .int .i64 q3.o, .int .i64 q3.l, .int .i64 q3.p, .int .i64 q3.m] (by kernel_rfl) rfl rfl (HT2.out.box (x := (fp, [.int .i64 q2.s, .int .i64 q2.o, .int .i64 q2.l, .int .i64 q2.p, .int .i64 q2.m])) (by simp)) rfl (by intro u hu; simp at hu; rcases hu with rfl | rfl | rfl | rfl | rfl <;> rfl) ?_
    intro w9 ho9 hO9
    have HT3 := hH (Duo.lswap ((Duo.lswap HT2.out).head ho9 hO9))
    clear ho9 hO9 HT2
    refine hK.out _ _ ⟨HT3.out.box (x := (fb, [.int .i64 cf.b, .int .i64 cf.s, .int .i64 cf.l])) (by simp), HT3.out.fact (f := (fun W => Prts W (some ⟨g, o, none⟩) n cc l ss)) HK.out⟩ (fun hSn => ?_)
    clear hK K hSw0
    have hSw0 := hSn
    clear hSn
    refine tS 23 12 ?_
    refine tD ?_ _
    clear hSw0
    go_wp2
    go_meet
    case rel => exact ⟨rfl, rfl, HT3.out⟩
   refine AllReadyH.cons (o := ⟨some 69, _, _, _, _, _⟩) rfl (fun K hK => ?_) ?_
   ·go_simp
    refine (round_any x.next cf.s _ HXO.out.next (by have := HC.out.2.1; omega) (by have := HC.out.2.1; omega)).mono ?_
    rintro en wu ⟨rfl, rfl⟩
    rw [HV.out]
    refine hK.out _ _ hSw0 (fun hSn => ?_)
    clear hK K hSw0
    have hSw0 := hSn
    clear hSn
    refine tR 3 61 fun K hK => ?_
    have b1 := HY.out.box (x := (fp, [.int .i64 q2.s, .int .i64 q2.o, .int .i64 q2.l, .int .i64 q2.p, .int .i64 q2.m])) (by simp)
    obtain ⟨k0, k1, k2, k3, k4⟩ := Kn.own5 b1
    clear b1
    go_simp
    clear k0 k1 k2 k3 k4
    refine hK.out _ _ hSw0 (fun hSn => ?_)
    clear hK K hSw0
    have hSw0 := hSn
    clear hSn
    refine tR 18 76 fun K hK => ?_
    go_simp
    refine (kit_turn_any w0 _ p r d2 _ cf q2 v (!b) HY.out HC.out HLD2.out.ps ⟨HLD2.out.m.1, by have := HLD2.out.m.2; omega⟩ ⟨HLD2.out.l.1, by have := HLD2.out.l.2; omega⟩ HLD2.out.p HVB.out HLD2.out.lv HLD2.out.hh).mono ?_
    rw [HTR.out]
    rintro en wt ⟨rfl, hd⟩
    have HT2 := hH hd
    clear hd HY
    refine hK.out _ _ ⟨HT2.out.box (x := (fb, [.int .i64 cf.b, .int .i64 cf.s, .int .i64 cf.l])) (by simp), HT2.out.fact (f := (fun W => Prts W (some ⟨g, o, none⟩) n cc l ss)) HK.out⟩ (fun hSn => ?_)
    clear hK K hSw0
    have hSw0 := hSn
    clear hSn
    refine tS 19 57 ?_
    refine tS 20 77 ?_
    refine tS 21 78 ?_
    refine Kn.takeR 22 ⟨none, _, _, _, _, _⟩ fun K hK => ?_
    refine step_store_own rfl 32 (.tmp 8) (.tmp 77) rfl fp [.int .i64 q2.s, .int .i64 q2.o, .int .i64 q2.l, .int .i64 q2.p, .int .i64 q2.m] [.int .i64 q3.s, .int .i64 q3.o, .int .i64 q3.l, .int .i64 q3.p, .int .i64 q3.m] (by kernel_rfl) rfl rfl (HT2.out.box (x := (fp, [.int .i64 q2.s, .int .i64 q2.o, .int .i64 q2.l, .int .i64 q2.p, .int .i64 q2.m])) (by simp)) rfl (by intro u hu; simp at hu; rcases hu with rfl | rfl | rfl | rfl | rfl <;> rfl) ?_
    intro w9 ho9 hO9
    have HT3 := hH (Duo.lswap ((Duo.lswap HT2.out).head ho9 hO9))
    clear ho9 hO9 HT2
    refine hK.out _ _ ⟨HT3.out.box (x := (fb, [.int .i64 cf.b, .int .i64 cf.s, .int .i64 cf.l])) (by simp), HT3.out.fact (f := (fun W => Prts W (some ⟨g, o, none⟩) n cc l ss)) HK.out⟩ (fun hSn => ?_)
    clear hK K hSw0
    have hSw0 := hSn
    clear hSn
    refine tS 23 12 ?_
    refine tD ?_ _
    clear hSw0
    go_wp2
    go_meet
    case rel => exact ⟨rfl, rfl, HT3.out⟩
   exact AllReadyH.nil
  obtain ⟨rfl, rfl, hd⟩ := hcut
  have HE := hH hd
  clear hd HY2
  cases b with
  | true =>
   have HFIN : Hid (laidGo cf (x :: l.drop (j + 1)) qj dj = (q3, d3)) := hH (by rw [laidGo_lost HNE.out HB.out, HLOG.out, HV.out]; exact HTR.out)
   have hq3 : q3.o = 0 := by have h := HTR.out; unfold turnRun at h; simp only [Bool.not_true, Bool.false_eq_true, if_false] at h; injection h with h1 h2; rw [← h1]; rfl
   obtain ⟨a3, b3, e3, f3, g3⟩ := q3
   simp only at hq3
   subst hq3
   obtain ⟨y0, y1, y2, y3, y4⟩ := own5 (HE.out.box (x := (fp, [.int .i64 (⟨a3, 0, e3, f3, g3⟩ : Ps).s, .int .i64 (⟨a3, 0, e3, f3, g3⟩ : Ps).o, .int .i64 (⟨a3, 0, e3, f3, g3⟩ : Ps).l, .int .i64 (⟨a3, 0, e3, f3, g3⟩ : Ps).p, .int .i64 (⟨a3, 0, e3, f3, g3⟩ : Ps).m])) (by simp))
   have z := HE.out.box (x := (fo, [.int .i64 0, .int .i64 0, .int .i64 0, .int .i64 0, .int .i64 0])) (by simp)
   have z0 := z.frozen 0
   have z1 := z.frozen 1
   have z2 := z.frozen 2
   have z3 := z.frozen 3
   have z4 := z.frozen 4
   obtain ⟨o0, o1, o2, o3, o4⟩ := Kn.own5 z
   clear z
   simp only at y0 y1 y2 y3 y4
   go_wp2_with fail
   have HEND := hH (Duo.subF ((HE.out.call 0 rfl (own_set5 (HE.out.box (x := (fo, [.int .i64 0, .int .i64 0, .int .i64 0, .int .i64 0, .int .i64 0])) (by simp)) (.int .i64 (⟨a3, 0, e3, f3, g3⟩ : Ps).s) (.int .i64 (⟨a3, 0, e3, f3, g3⟩ : Ps).o) (.int .i64 (⟨a3, 0, e3, f3, g3⟩ : Ps).l) (.int .i64 (⟨a3, 0, e3, f3, g3⟩ : Ps).p) (.int .i64 (⟨a3, 0, e3, f3, g3⟩ : Ps).m)) (only_set5 _ fo _ _ _ _ _)).ldrop.ldrop.ldrop) (F' := c.F) (fun f hf => by simp [hf]))
   (try simp only [Exit.inBlock, Exit.then])
   refine bodyPost_ret (v := .tuple #[.agg #[.int .i64 (⟨a3, 0, e3, f3, g3⟩ : Ps).s, .int .i64 (⟨a3, 0, e3, f3, g3⟩ : Ps).o, .int .i64 (⟨a3, 0, e3, f3, g3⟩ : Ps).l, .int .i64 (⟨a3, 0, e3, f3, g3⟩ : Ps).p, .int .i64 (⟨a3, 0, e3, f3, g3⟩ : Ps).m], .bool true]) ?_ rfl ?_
   ·simp only [results, HRES.out]
    go_simp
   rw [← HRUN.out, HFIN.out]
   exact ⟨rfl, HEND.out⟩
  | false =>
   have hq3 : q3.o = 1 := by have h := HTR.out; unfold turnRun at h; simp only [Bool.not_false, if_true] at h; injection h with h1 h2; rw [← h1]; rfl
   have htr : turnRun cf v true q2 d2 = (q3, d3) := HTR.out
   have hld3 := HLD2.out.turn HC.out (v := v) (by omega) HVB.out
   rw [htr] at hld3
   have HLD3 : Hid (LdOk cf (61 * ((j + 1 : Nat) : Int)) q3 d3) := hH (by rw [show 61 * ((j + 1 : Nat) : Int) = 61 * (j : Int) + 60 + 1 from by push_cast; omega]; exact hld3)
   have HRUN2 : Hid (laidGo cf (l.drop (j + 1)) q3 d3 = laidRun cf l q d) := hH (by rw [← HRUN.out, laidGo_on HNE.out HB.out, HLOG.out, HV.out]; simp only; rw [htr])
   clear hld3 htr
   obtain ⟨y0, y1, y2, y3, y4⟩ := own5 (HE.out.box (x := (fp, [.int .i64 q3.s, .int .i64 q3.o, .int .i64 q3.l, .int .i64 q3.p, .int .i64 q3.m])) (by simp))
   have z := HE.out.box (x := (fo, [.int .i64 0, .int .i64 0, .int .i64 0, .int .i64 0, .int .i64 0])) (by simp)
   have z0 := z.frozen 0
   have z1 := z.frozen 1
   have z2 := z.frozen 2
   have z3 := z.frozen 3
   have z4 := z.frozen 4
   obtain ⟨o0, o1, o2, o3, o4⟩ := Kn.own5 z
   clear z
   go_wp2_with fail
   go_roundg (gk - 1)
   case measure => omega
   case rel => exact ⟨j + 1, q3, d3, by omega, rfl, by go_num, HRUN2.out, HLD3.out, HE.out⟩
 obtain rfl : j = n := by omega
 have hdr : l.drop j = [] := List.drop_of_length_le (by rw [HL.out]; exact Nat.le_refl _)
 rw [hdr] at HRUN
 have HFIN : Hid (laidGo cf [] qj dj = (qj, dj)) := hH rfl
 clear hdr
 obtain ⟨y0, y1, y2, y3, y4⟩ := own5 (HD.out.box (x := (fp, [.int .i64 qj.s, .int .i64 qj.o, .int .i64 qj.l, .int .i64 qj.p, .int .i64 qj.m])) (by simp))
 have z := HD.out.box (x := (fo, [.int .i64 0, .int .i64 0, .int .i64 0, .int .i64 0, .int .i64 0])) (by simp)
 have z0 := z.frozen 0
 have z1 := z.frozen 1
 have z2 := z.frozen 2
 have z3 := z.frozen 3
 have z4 := z.frozen 4
 obtain ⟨o0, o1, o2, o3, o4⟩ := Kn.own5 z
 clear z
 go_wp2_with fail
 have HEND := hH (Duo.subF ((HD.out.call 0 rfl (own_set5 (HD.out.box (x := (fo, [.int .i64 0, .int .i64 0, .int .i64 0, .int .i64 0, .int .i64 0])) (by simp)) (.int .i64 qj.s) (.int .i64 qj.o) (.int .i64 qj.l) (.int .i64 qj.p) (.int .i64 qj.m)) (only_set5 _ fo _ _ _ _ _)).ldrop.ldrop.ldrop) (F' := c.F) (fun f hf => by simp [hf]))
 (try simp only [Exit.inBlock, Exit.then])
 refine bodyPost_ret (v := .tuple #[.agg #[.int .i64 qj.s, .int .i64 qj.o, .int .i64 qj.l, .int .i64 qj.p, .int .i64 qj.m], .bool true]) ?_ rfl ?_
 ·simp only [results, HRES.out]
  go_simp
 rw [← HRUN.out, HFIN.out]
 exact ⟨rfl, HEND.out⟩
end Go.Proofs.YtgcfdjcpcclcjaaGreat
namespace Go.Kn
open Go Go.RowKit
/-- cells of a slice that begins its block -/
def Cel (W : World) (A : Option Addr) (n c : Nat) (xs : List Value) : Prop := n ≤ c ∧ c ≤ maxLen ∧ (0 < n → ∃ g, A = some ⟨g, 0, none⟩ ∧ ∀ j u, xs[j]? = some u → W.cell? ⟨g, j, none⟩ = some u)
theorem Cel.fc {w : World} {M : Nat → Prop} {A : Option Addr} {n c : Nat} {xs : List Value} (h : Cel w A n c xs) (hm : ∀ a, A = some a → ¬ M a.block) : Fc w M (fun W => Cel W A n c xs) := fun W hW => ⟨h.1, h.2.1, fun hn => by
 obtain ⟨g, e, hc⟩ := h.2.2 hn
 exact ⟨g, e, fun j u hj => fc_cell (hc j u hj) (show ¬ M g from hm ⟨g, 0, none⟩ e) W hW⟩⟩
theorem Wc.goutN {w0 w : World} {L : List (Nat × List Value)} {G : List Gs} {F : List (World → Prop)} {e sz n c : Nat} {A : Option Addr} {xs : List Value} (h : Wc w0 w L (⟨e, sz, .slice A n c, n, xs⟩ :: G) F) : Wc w0 w L G ((fun W => Cel W A n c xs) :: F) := by
 have hr : Cel w A n c xs := cells_owns (h.gi 0 rfl)
 refine h.gdrop.addF _ (hr.fc fun a ha hm => ?_)
 subst ha
 have hob : (Value.slice (some a) n c).ownBlock = some a.block := rfl
 rcases hm with hm | ⟨y, hy, hk⟩
 ·obtain ⟨x, hx, e1⟩ := List.mem_map.1 hm
  exact h.g3 x hx _ List.mem_cons_self (by rw [hob, e1])
 exact (List.pairwise_cons.1 h.g2).1 y hy _ hob hk
structure Prx where
 pr : PR
 s : Option Addr × Nat × Nat
 ss : List (Option Addr × Nat × Nat)
def Prx.one (x : Prx) : List Value := [slv x.s, .int .i64 x.pr.next, .bool x.pr.lost]
def Prx.fct (x : Prx) : World → Prop := fun W => Krs W x.s.1 x.s.2.1 x.s.2.2 x.pr.recs x.ss
def prxV (xs : List Prx) : List Value := xs.flatMap Prx.one
theorem Prts.of_cel {W : World} {A : Option Addr} {c : Nat} {xs : List Prx} (h : Cel W A xs.length c (prxV xs)) (hf : ∀ y ∈ xs, y.fct W) : Prts W A xs.length c (xs.map Prx.pr) (xs.map fun x => (x.s, x.ss)) := by
 refine ⟨by simp, by simp, h.1, h.2.1, fun hn => ?_, fun i h1 h2 => ?_⟩
 ·obtain ⟨g, e, hc⟩ := h.2.2 hn
  refine ⟨g, 0, e, fun i h1 h2 => ?_⟩
  have hi : i < xs.length := by simpa using h1
  have hk : ∀ k, k < 3 → (prxV xs)[i * 3 + k]? = (Prx.one xs[i])[k]? := fun k hk => flatMap_get Prx.one 3 (fun x => rfl) xs i k hi hk
  simp only [Nat.zero_add, List.getElem_map]
  exact ⟨hc _ _ ((hk 0 (by decide)).trans rfl), hc _ _ ((hk 1 (by decide)).trans rfl), hc _ _ ((hk 2 (by decide)).trans rfl)⟩
 have hi : i < xs.length := by simpa using h1
 simp only [List.getElem_map]
 exact hf _ (List.getElem_mem hi)
theorem Ins.nil0 (w : World) : Ins w none 0 0 [] := Row1.nil w
end Go.Kn
namespace Go.Proofs.YtgcfdjcpcclcjaaGreat
open Go Go.RowKit Go.Kn
theorem Duo.goutN {w0 w : World} {p : PD} {r : RD} {d e : Dk} {L : List (Nat × List Value)} {G : List Gs} {F : List (World → Prop)} {t sz n c : Nat} {A : Option Addr} {xs : List Value} (h : Duo w0 w p r d e ⟨L, ⟨t, sz, .slice A n c, n, xs⟩ :: G, F⟩) : Duo w0 w p r d e ⟨L, G, (fun W => Cel W A n c xs) :: F⟩ := by
 obtain ⟨L0, G0, F0, hw, back⟩ := h.fr
 exact back w ⟨L, G, _ :: F⟩ (Wc.goutN hw)
end Go.Proofs.YtgcfdjcpcclcjaaGreat
