/- WrJ, Awake15, SpaT: joined by pack.py, without what the claim does not use. -/
import Derived.Test.YtgcfdjcpcclcjaaWriterSpaceE
set_option linter.unusedVariables false
set_option linter.unusedSimpArgs false
namespace Go.Proofs.Ytgcfdjcpcclcjaa
open Go Go.RowKit Go.Kn
/-- where all of it lies -/
structure Zp where
 p : PD
 r : RD
 W : Nat
 gb : Nat
 q : TD
 u : RT
 Z : Nat
 X : Nat
def Zp.box (k : Zp) : List Value := ZBx k.p k.r k.gb c8 k.q k.u (.pointer (some ⟨k.W, 0, none⟩)) (.pointer (some ⟨k.X, 0, none⟩))
def GE8 (gb : Nat) (W : World) : Prop := GeoAt W gb 8 8 24
def ZI (w0 w : World) (k : Zp) (z : Wr) (L : List (Nat × List Value)) (G : List Gs) (F : List (World → Prop)) : Prop :=
 k.q.n = 8 ∧ WrIn w0 w k.p k.r (Dk.new 202) k.W k.gb k.q z ((k.Z, k.box) :: L) G (GE8 k.gb :: F)
/-- numbers that are small -/
structure Bnd (z : Wr) : Prop where
 ok : z.t.Ok 8
 s : 0 ≤ z.p.s ∧ z.p.s ≤ 7
 o : 0 ≤ z.p.o ∧ z.p.o ≤ 23
 l : 1 ≤ z.p.l ∧ z.p.l ≤ 100000
 held : z.d.held.length ≤ 100000
 its : z.its.length ≤ 6
 bl : z.bl.length ≤ 6
 f64 : ∀ b ∈ z.bl, b.length = 64
theorem full_all {bl : List (List UInt8)} (h : full64 bl = true) : ∀ b ∈ bl, b.length = 64 := fun b hb => by
 have := List.all_eq_true.1 h b hb
 simpa using this
theorem SpI.bnd {o n m : Nat} {z : Wr} (h : SpI o n m z) (hm : m ≤ 300) : Bnd z := by
 have h1 := h.l
 have h2 := h.held
 have h3 := h.h.six
 have h4 := bl_le h.h
 exact { ok := h.ok, s := h.h.s, o := h.h.o, l := ⟨h.h.l, by omega⟩, held := by omega, its := h3, bl := by omega, f64 := full_all h.h.f64 }
theorem PI.bnd {tn : Nat} {pot : Int} {z : Wr} (h : PI tn pot z) (hp : pot ≤ 400) : Bnd z := by
 have h1 := h.l
 have h2 := h.held
 have h3 := h.h.six
 have h4 := bl_le h.h
 have h5 := h.tn7
 exact { ok := h.ok, s := h.h.s, o := h.h.o, l := ⟨h.h.l, by omega⟩, held := by omega, its := h3, bl := by omega, f64 := full_all h.h.f64 }
section
variable {w0 w w' : World} {k : Zp} {z : Wr} {L : List (Nat × List Value)} {G : List Gs} {F : List (World → Prop)}
theorem ZI.duo (h : ZI w0 w k z L G F) : ∃ L' G' F', Duo w0 w k.p k.r z.d (Dk.new 202) ⟨(k.W, L') :: k.q.L z.t ((k.Z, k.box) :: L), G', F'⟩ := by
 obtain ⟨_, A, c, B, m, sl, h⟩ := h
 exact ⟨_, _, _, h⟩
theorem ZI.only (h : ZI w0 w k z L G F) : Only [] w0 w := by
 obtain ⟨_, _, _, h⟩ := h.duo
 exact h.only
theorem ZI.keep0 (h : ZI w0 w k z L G F) (hO : Only [] w w') : ZI w0 w' k z L G F := by
 obtain ⟨hq, A, c, B, m, sl, h⟩ := h
 exact ⟨hq, A, c, B, m, sl, h.keep0 hO⟩
theorem ZI.drew (h : ZI w0 w k z L G F) : ZI w0 w.drew k z L G F := h.keep0 (Only.refl _ _).drew
theorem ZI.zbox (h : ZI w0 w k z L G F) : Kn.Own w k.Z k.box := by
 obtain ⟨_, _, _, h⟩ := h.duo
 exact h.boxi 4 rfl
theorem ZI.box (h : ZI w0 w k z L G F) {x : Nat × List Value} (hx : x ∈ L) : Kn.Own w x.1 x.2 := by
 obtain ⟨_, _, _, h⟩ := h.duo
 exact h.box (x := x) (by unfold TD.L; simp [hx])
theorem ZI.fact (h : ZI w0 w k z L G F) {f : World → Prop} (hf : f ∈ F) : f w := by
 obtain ⟨_, A, c, B, m, sl, h⟩ := h
 exact h.fact (by simp [hf])
theorem ZI.geo (h : ZI w0 w k z L G F) : GeoAt w k.gb c8.b c8.s c8.l := by
 obtain ⟨_, A, c, B, m, sl, h⟩ := h
 exact h.fact (f := GE8 k.gb) (by simp)
theorem ZI.newB (h : ZI w0 w k z L G F) (cs : Array Value) (t : TypeId) {b : Nat} (hb : w.heap.size = b) : ZI w0 (w.alloc (.cells cs t)) k z ((b, cs.toList) :: L) G F := by
 obtain ⟨hq, A, c, B, m, sl, h⟩ := h
 exact ⟨hq, A, c, B, m, sl, (h.newB cs t hb).permL (perm_any (fun c => by simp only [TD.L, List.map_cons, List.sum_cons]; omega))⟩
theorem ZI.ldrop {x : Nat × List Value} (h : ZI w0 w k z (x :: L) G F) : ZI w0 w k z L G F := by
 obtain ⟨hq, A, c, B, m, sl, h⟩ := h
 exact ⟨hq, A, c, B, m, sl, Duo.ldrop (x := x) (h.permL (perm_any (fun c => by simp only [TD.L, List.map_cons, List.sum_cons]; omega)))⟩
theorem ZI.head {b : Nat} {xs ys : List Value} (h : ZI w0 w k z ((b, xs) :: L) G F) (ho : Kn.Own w' b ys) (hO : Only [b] w w') : ZI w0 w' k z ((b, ys) :: L) G F := by
 obtain ⟨hq, A, c, B, m, sl, h⟩ := h
 exact ⟨hq, A, c, B, m, sl, h.call 5 rfl ho hO⟩
theorem ZI.addFc (h : ZI w0 w k z L G F) (hO : Only [] w w') {f : World → Prop} (hf : Fc w' (fun j => j < w.heap.size) f) : ZI w0 w' k z L G (f :: F) := by
 obtain ⟨hq, A, c, B, m, sl, h⟩ := h
 refine ⟨hq, A, c, B, m, sl, (h.addFc hO hf).subF fun g hg => ?_⟩
 simp only [List.mem_cons] at hg ⊢
 rcases hg with h | h | h | h <;> simp [h]
theorem ZI.subF (h : ZI w0 w k z L G F) {F' : List (World → Prop)} (hF : ∀ f ∈ F', f ∈ F) : ZI w0 w k z L G F' := by
 obtain ⟨hq, A, c, B, m, sl, h⟩ := h
 refine ⟨hq, A, c, B, m, sl, h.subF fun g hg => ?_⟩
 simp only [List.mem_cons] at hg ⊢
 rcases hg with h | h | h
 ·exact .inl h
 ·exact .inr (.inl h)
 ·exact .inr (.inr (hF _ h))
theorem ZI.fdrop {f : World → Prop} (h : ZI w0 w k z L G (f :: F)) : ZI w0 w k z L G F := h.subF fun g hg => List.mem_cons_of_mem _ hg
/-- a block that was filled -/
theorem ZI.addBy (h : ZI w0 w k z L G F) (hO : Only [] w w') {g : Nat} {b : List UInt8} (hg : w.heap.size ≤ g) (ho : Kn.Own w' g (bvs b)) (hl : b.length ≤ 64) : ZI w0 w' k z L G ((fun W => Bys W (some ⟨g, 0, none⟩) b.length b.length b) :: F) :=
 h.addFc hO (Row1.fc (Row1.of_Own ho (by rw [bvs_length]) (Nat.le_refl _) (Nat.le_trans hl (by decide))) (fun _ a ha => by injection ha with ha; subst ha; exact Nat.not_lt.2 hg))
theorem ZI.addFill (h : ZI w0 w k z L G F) (hO : Only [] w w') {g : Nat} {x : Int} (hg : w.heap.size ≤ g) (ho : Kn.Own w' g (bvs (fillB x))) : ZI w0 w' k z L G ((fun W => Bys W (some ⟨g, 0, none⟩) 64 64 (fillB x)) :: F) := by
 have := h.addBy hO hg ho (Nat.le_of_eq (fillB_length x))
 rwa [fillB_length] at this
theorem wr_new_nil (w : World) (gb T : Nat) (ps : Ps) : Calls Try.prog 32 #[.pointer none, .pointer (some ⟨gb, 0, none⟩), .pointer (some ⟨T, 0, none⟩), .agg #[.int .i64 ps.s, .int .i64 ps.o, .int .i64 ps.l, .int .i64 ps.p, .int .i64 ps.m]] w fun en w' => en = .returned (.pointer none) ∧ Only [] w w' := by
 go_enter Try.func32, Try.ntmps32
 go_wp2
 go_ret
 exact ⟨rfl, (Only.refl _ _).alloc _⟩
theorem waiting_nil (w : World) : Calls Try.prog 11 #[.pointer none] w fun en w' => en = .returned (.int .i64 0) ∧ w = w' := by
 go_enter Try.func11, Try.ntmps11
 go_wp2
 go_ret
 exact ⟨rfl, rfl⟩
theorem zi_new_none (h : ZI w0 w k z L G F) (ps : Ps) (hp : posMay 8 24 ps.s ps.o ps.l ps.p ps.m = false) : Calls Try.prog 32 #[.pointer (some ⟨k.p.D, 0, none⟩), .pointer (some ⟨k.gb, 0, none⟩), .pointer (some ⟨k.q.T, 0, none⟩), .agg #[.int .i64 ps.s, .int .i64 ps.o, .int .i64 ps.l, .int .i64 ps.p, .int .i64 ps.m]] w fun en w' => en = .returned (.pointer none) ∧ ZI w0 w' k z L G F := by
 obtain ⟨hq, A, c, B, m, sl, h⟩ := h
 have h1 := h.permL (L' := k.q.L z.t ((k.W, WB k.p.D k.gb k.q.T z.p (.slice A z.its.length c) (.slice B z.bl.length m)) :: (k.Z, k.box) :: L)) (perm_any (fun c => by simp only [TD.L, List.map_cons, List.sum_cons]; omega))
 refine (wr_new_any w0 w k.p k.r _ _ k.gb k.q z.t ps c8 _ _ _ h1 (by exact List.mem_cons_of_mem _ List.mem_cons_self) c8ok).mono ?_
 rintro en w1 hs
 rw [show posMay c8.s c8.l ps.s ps.o ps.l ps.p ps.m = false from hp] at hs
 obtain ⟨rfl, h2⟩ := hs
 exact ⟨rfl, hq, A, c, B, m, sl, h2.permL (perm_any (fun c => by simp only [TD.L, List.map_cons, List.sum_cons]; omega))⟩
theorem zi_add (h : ZI w0 w k z L G F) (hb : Bnd z) (ik ib ic iv : Int) {Ab : Option Addr} {n cb : Nat} {b : List UInt8} (sp : Bool) (hby : (fun W => Bys W Ab n cb b) ∈ F) (hn : n ≤ 100000) :
  Calls Try.prog 12 #[.pointer (some ⟨k.W, 0, none⟩), .agg #[.int .i64 ik, .int .i64 ib, .int .i64 ic, .int .i64 iv], .slice Ab n cb, .bool sp] w fun en w' => en = .returned (.tuple #[.int .i64 (z.add c8 ⟨ik, ib, ic, iv⟩ b sp).2.1, .int .i64 (z.add c8 ⟨ik, ib, ic, iv⟩ b sp).2.2]) ∧ ZI w0 w' k (z.add c8 ⟨ik, ib, ic, iv⟩ b sp).1 L G F := by
 obtain ⟨hq, h⟩ := h
 have hl := hb.l
 have hi := hb.its
 have hbl := hb.bl
 have hh := hb.held
 refine (wr_add_any w0 w k.p k.r _ k.W k.gb k.q z ik ib ic iv Ab n cb b sp c8 _ _ _ h (by exact List.mem_cons_self) (List.mem_cons_of_mem _ hby) c8ok (by rw [hq]; exact hb.ok) (by omega) hb.s (by have := hb.o; omega) (by omega) (by omega) (by omega) (by omega) hn).mono ?_
 rintro en w1 ⟨he, h1⟩
 exact ⟨he, hq, h1⟩
theorem zi_emit (h : ZI w0 w k z L G F) (hb : Bnd z) :
  Calls Try.prog 15 #[.pointer (some ⟨k.W, 0, none⟩)] w fun en w' => en = .returned (.int .i64 (z.emit c8).2) ∧ ZI w0 w' k (z.emit c8).1 L G F := by
 obtain ⟨hq, h⟩ := h
 have hl := hb.l
 have hh := hb.held
 refine (wr_emit_any w0 w k.p k.r _ k.W k.gb k.q z c8 _ _ _ h (by exact List.mem_cons_self) c8ok (by rw [hq]; exact hb.ok) (by omega) hb.s (by have := hb.o; omega) (by omega) (by omega)).mono ?_
 rintro en w1 ⟨he, h1⟩
 exact ⟨he, hq, h1⟩
theorem zi_read (h : ZI w0 w k z L G F) (hb : Bnd z) (a : Int) :
  Calls Try.prog 20 #[.pointer (some ⟨k.W, 0, none⟩), .int .i64 a] w (RdSays w (z.rd c8 a).1 (z.rd c8 a).2) := by
 obtain ⟨hq, h⟩ := h
 exact wr_read_any w0 w k.p k.r _ k.W k.gb k.q z a c8 _ _ _ h (by exact List.mem_cons_self) c8ok (by have := hb.o; omega) (by have := hb.bl; omega) hb.f64
theorem zi_pos (h : ZI w0 w k z L G F) :
  Calls Try.prog 10 #[.pointer (some ⟨k.W, 0, none⟩)] w fun e w' => e = .returned (.agg #[.int .i64 z.p.s, .int .i64 z.p.o, .int .i64 z.p.l, .int .i64 z.p.p, .int .i64 z.p.m]) ∧ Only [] w w' := by
 obtain ⟨hq, A, c, B, m, sl, h⟩ := h
 exact wr_pos_any w k.W k.p.D k.gb k.q.T z.p _ _ (h.boxi 0 rfl)
theorem zi_waiting (h : ZI w0 w k z L G F) :
  Calls Try.prog 11 #[.pointer (some ⟨k.W, 0, none⟩)] w fun e w' => e = .returned (.int .i64 (z.its.length : Int)) ∧ w = w' := by
 obtain ⟨hq, A, c, B, m, sl, h⟩ := h
 exact wr_waiting_any w k.W k.p.D k.gb k.q.T z.p A _ c _ (h.boxi 0 rfl)
theorem zi_acts (h : ZI w0 w k z L G F) : Calls Try.prog 9 #[.pointer (some ⟨k.p.D, 0, none⟩)] w fun en w' => en = .returned (.int .i64 z.d.acts) ∧ w = w' := by
 obtain ⟨_, _, _, h⟩ := h.duo
 exact duo_acts h
theorem zi_held (h : ZI w0 w k z L G F) : Calls Try.prog 41 #[.pointer (some ⟨k.p.D, 0, none⟩)] w fun en w' => en = .returned (.int .i64 (z.d.held.length : Nat)) ∧ w = w' := by
 obtain ⟨_, _, _, h⟩ := h.duo
 exact duo_held h
theorem zi_free (h : ZI w0 w k z L G F) (ht : z.t.Ok 8) : Calls Try.prog 7 #[.pointer (some ⟨k.q.T, 0, none⟩)] w fun e w' => e = .returned (.int .i64 (z.t.free : Nat)) ∧ Only [] w w' := by
 have hq := h.1
 obtain ⟨_, _, _, h⟩ := h.duo
 exact us_free_any w k.q z.t (h.boxi 1 rfl) (h.boxi 2 rfl) (by rw [hq]; exact ht) (by omega)
theorem zi_add_eq (h : ZI w0 w k z L G F) (hb : Bnd z) {ik ib ic iv : Int} {Ab : Option Addr} {n cb : Nat} {b : List UInt8} {sp : Bool} {y : Wr} {a e : Int} (he : z.add c8 ⟨ik, ib, ic, iv⟩ b sp = (y, a, e)) (hby : (fun W => Bys W Ab n cb b) ∈ F) (hn : n ≤ 100000) :
  Calls Try.prog 12 #[.pointer (some ⟨k.W, 0, none⟩), .agg #[.int .i64 ik, .int .i64 ib, .int .i64 ic, .int .i64 iv], .slice Ab n cb, .bool sp] w fun en w' => en = .returned (.tuple #[.int .i64 a, .int .i64 e]) ∧ ZI w0 w' k y L G F := by
 refine (zi_add h hb ik ib ic iv sp hby hn).mono ?_
 rw [he]
 exact fun _ _ h => h
theorem zi_emit_eq (h : ZI w0 w k z L G F) (hb : Bnd z) {y : Wr} (he : z.emit c8 = (y, 0)) :
  Calls Try.prog 15 #[.pointer (some ⟨k.W, 0, none⟩)] w fun en w' => en = .returned (.int .i64 0) ∧ ZI w0 w' k y L G F := by
 refine (zi_emit h hb).mono ?_
 rw [he]
 exact fun _ _ h => h
theorem zi_read_eq (h : ZI w0 w k z L G F) (hb : Bnd z) {a e : Int} {b : List UInt8} (he : z.rd c8 a = (b, e)) :
  Calls Try.prog 20 #[.pointer (some ⟨k.W, 0, none⟩), .int .i64 a] w fun en w' => ∃ A n c, en = .returned (.tuple #[.slice A n c, .int .i64 e]) ∧ ZI w0 w' k z L G ((fun W => Bys W A n c b) :: F) := by
 refine (zi_read h hb a).mono ?_
 rw [he]
 rintro en w1 ⟨A, n, c, rfl, hf, hO⟩
 exact ⟨A, n, c, rfl, h.addFc hO hf⟩
theorem small15_any (w : World) : Calls Try.prog 6 #[] w fun e w' => e = .returned (.agg #[.int .i64 8, .int .i64 8, .int .i64 24]) ∧ Only [] w w' := by
 have hres : Try.f6.results = #[.cell 0 27] := by kernel_rfl
 have HRES := Lib.hid hres
 clear hres
 go_enter Try.func6, Try.ntmps6
 go_wp2
 refine bodyPost_ret (v := .agg #[.int .i64 8, .int .i64 8, .int .i64 24]) ?_ rfl ⟨rfl, ?_⟩
 ·simp only [results, HRES.out]
  go_simp
 ·exact (Only.refl _ _).alloc _
/-- law15.made on small -/
theorem made8_any' (w0 w : World) (ps : Ps) (A : Option Addr) (m c : Nat) (busy : List Int) (fr : Fr3) (h : Wc w0 w fr.L fr.G fr.F) (hb : (fun W => Ins W A m c busy) ∈ fr.F) (hm : m ≤ 1000) (hwf : (Lit.int .i64 ps.s).wf = true) (hbw : ∀ x ∈ busy, (Lit.int .i64 x).wf = true) (hp : posMay 8 24 ps.s ps.o ps.l ps.p ps.m = true) :
  Calls Try.prog 5 #[.agg #[.int .i64 8, .int .i64 8, .int .i64 24], .agg #[.int .i64 ps.s, .int .i64 ps.o, .int .i64 ps.l, .int .i64 ps.p, .int .i64 ps.m], .slice A m c] w fun en w' => ∃ (k : Zp) (L' : List (Nat × List Value)), en = .returned (.tuple #[.pointer (some ⟨k.Z, 0, none⟩), .bool true]) ∧ (∀ x ∈ fr.L, x ∈ L') ∧ ZI w0 w' k ⟨Dk.new 202, tbMade 8 c8 ps.s busy, ps, [], []⟩ L' fr.G fr.F := by
 refine (made_any w0 w c8 ps A m c busy fr 8 h c8ok rfl hb hm hwf hbw).mono ?_
 rintro en w1 ⟨p, r, gb, q, u, Z, rfl, hq, hu, hp1, hr1, hi⟩
 rw [show posMay c8.s c8.l ps.s ps.o ps.l ps.p ps.m = true from hp] at hi
 obtain ⟨W, X, hi⟩ := hi
 exact ⟨⟨p, r, W, gb, q, u, Z, X⟩, _, rfl, fun x hx => by unfold RT.L; simp [hx], hq, hi⟩
end
end Go.Proofs.Ytgcfdjcpcclcjaa
namespace Go.Proofs.Ytgcfdjcpcclcjaa
open Go Go.RowKit Go.Kn
theorem aw_bnd (i : Nat) (h : i ≤ 6) : Bnd (awk i) := by
 obtain ⟨l1, l2⟩ := aw_len i
 have hw := aw_hw i h
 exact { ok := tbMade_ok 8 c8 0 [], s := by show (0 : Int) ≤ 0 ∧ (0 : Int) ≤ 7; decide, o := by show (0 : Int) ≤ 0 ∧ (0 : Int) ≤ 23; decide, l := by show (1 : Int) ≤ 1 ∧ (1 : Int) ≤ 100000; decide, held := by show 0 ≤ 100000; decide, its := by omega, bl := by omega, f64 := full_all hw.f64 }
theorem field_pos15 (s o l p m : Int) (w : World) : (Instr.field 30 (.agg #[.int .i64 s, .int .i64 o, .int .i64 l, .int .i64 p, .int .i64 m]) 1).run Try.prog w = .ok (.int .i64 o) w := by kernel_rfl
set_option maxRecDepth 100000 in
set_option maxHeartbeats 16000000 in
theorem awake15_any (w : World) : Calls Try.prog 14 #[] w fun e w' => e = .returned (.bool true) ∧ Only [] w w' := by
 obtain ⟨y6, hy6, hyh, hyo, hyi⟩ := aw_mark
 have HY6 := Lib.hid hy6
 have HYH := Lib.hid hyh
 have HYO := Lib.hid hyo
 clear hy6 hyh hyo
 have HYB : Hid (Bnd (awk 6)) := Lib.hid (aw_bnd 6 (by decide))
 have H1 := Lib.hid (((Wc.start w).old (f := fun W => Ins W none 0 0 []) (fun W _ => Row1.nil W)).old (f := fun W => Bys W none 0 0 []) (fun W _ => Row1.nil W))
 go_enter Try.func14, Try.ntmps14
 go_wp2_with fail
 refine (small15_any _).mono ?_
 rintro en w1 ⟨rfl, hO⟩
 have H2 := Lib.hid (H1.out.keep0 hO)
 clear hO H1
 go_wp2_with fail
 refine (made8_any' w _ ⟨0, 0, 1, 0, 2⟩ none 0 0 [] ⟨[], [], [fun W => Bys W none 0 0 [], fun W => Ins W none 0 0 []]⟩ H2.out (by simp) (by decide) rfl (by simp) rfl).mono ?_
 rintro en w2 ⟨k, L', rfl, _, hd⟩
 have HX : Hid (ZI w w2 k (awk 0) L' [] [fun W => Bys W none 0 0 [], fun W => Ins W none 0 0 []]) := Lib.hid hd
 clear hd H2
 go_wp2_with fail
 have HY := Lib.hid HX.out.drew
 clear HX
 refine wp_region_held_drew (S := (fun w' => Kn.Own w' k.Z k.box)) (by kernel_rfl) HY.out.zbox (fun hSw0 => ?_)
 generalize w2.drew = wz at *
 refine Kn.takeS 0 ⟨some 22, _, _, _, _, _⟩ ?_
 refine Kn.takeS 1 ⟨some 23, _, _, _, _, _⟩ ?_
 refine Kn.takeS 2 ⟨some 24, _, _, _, _, _⟩ ?_
 refine Kn.takeS 3 ⟨some 25, _, _, _, _, _⟩ ?_
 refine Kn.takeS 4 ⟨some 26, _, _, _, _, _⟩ ?_
 refine Kn.takeS 5 ⟨some 27, _, _, _, _, _⟩ ?_
 refine Kn.takeS 6 ⟨some 28, _, _, _, _, _⟩ (v := (.pointer (some ⟨k.W, 0, none⟩))) (hy := fun w hSw => by
  have q0 := hSw.cellv 8
  go_simp) ?_
 refine Kn.takeS 7 ⟨some 29, _, _, _, _, _⟩ ?_
 refine Kn.takeS 8 ⟨some 30, _, _, _, _, _⟩ ?_
 refine Kn.takeS 9 ⟨some 31, _, _, _, _, _⟩ ?_
 refine Kn.takeS 10 ⟨some 32, _, _, _, _, _⟩ ?_
 refine Kn.takeS 11 ⟨some 33, _, _, _, _, _⟩ ?_
 refine Kn.takeS 12 ⟨some 34, _, _, _, _, _⟩ ?_
 refine Kn.takeS 13 ⟨some 35, _, _, _, _, _⟩ (v := (.pointer (some ⟨k.gb, 0, none⟩))) (hy := fun w hSw => by
  have q0 := hSw.cellv 2
  go_simp) ?_
 refine Kn.takeS 14 ⟨some 36, _, _, _, _, _⟩ ?_
 refine Kn.takeS 15 ⟨some 37, _, _, _, _, _⟩ ?_
 refine Kn.takeS 16 ⟨some 38, _, _, _, _, _⟩ ?_
 refine Kn.takeS 17 ⟨some 39, _, _, _, _, _⟩ (v := (.pointer (some ⟨k.q.T, 0, none⟩))) (hy := fun w hSw => by
  have q0 := hSw.cellv 6
  go_simp) ?_
 refine Kn.takeS 18 ⟨some 40, _, _, _, _, _⟩ ?_
 refine Kn.takeR 19 ⟨some 41, _, _, _, _, _⟩ fun K hK => ?_
 go_simp
 refine (wr_new_nil _ k.gb k.q.T ⟨0, 0, 1, 0, 2⟩).mono ?_
 rintro en wn ⟨rfl, hO⟩
 have HYn := Lib.hid (HY.out.keep0 hO)
 clear hO
 clear HY
 refine hK.out _ _ HYn.out.zbox (fun hSn => ?_)
 clear hK K hSw0
 have hSw0 := hSn
 clear hSn
 refine Kn.takeS 20 ⟨some 42, _, _, _, _, _⟩ ?_
 refine Kn.takeS 21 ⟨some 43, _, _, _, _, _⟩ ?_
 refine Kn.takeS 22 ⟨some 44, _, _, _, _, _⟩ ?_
 refine Kn.takeS 23 ⟨some 45, _, _, _, _, _⟩ ?_
 refine Kn.takeS 24 ⟨some 46, _, _, _, _, _⟩ ?_
 refine Kn.takeS 25 ⟨some 47, _, _, _, _, _⟩ ?_
 refine Kn.takeS 26 ⟨some 48, _, _, _, _, _⟩ (v := (.pointer (some ⟨k.p.D, 0, none⟩))) (hy := fun w hSw => by
  have q0 := hSw.cellv 0
  go_simp) ?_
 refine Kn.takeS 27 ⟨some 49, _, _, _, _, _⟩ ?_
 refine Kn.takeS 28 ⟨some 50, _, _, _, _, _⟩ ?_
 refine Kn.takeS 29 ⟨some 51, _, _, _, _, _⟩ ?_
 refine Kn.takeS 30 ⟨some 52, _, _, _, _, _⟩ (v := (.pointer (some ⟨k.gb, 0, none⟩))) (hy := fun w hSw => by
  have q0 := hSw.cellv 2
  go_simp) ?_
 refine Kn.takeS 31 ⟨some 53, _, _, _, _, _⟩ ?_
 refine Kn.takeS 32 ⟨some 54, _, _, _, _, _⟩ ?_
 refine Kn.takeS 33 ⟨some 55, _, _, _, _, _⟩ ?_
 refine Kn.takeS 34 ⟨some 56, _, _, _, _, _⟩ (v := (.pointer (some ⟨k.q.T, 0, none⟩))) (hy := fun w hSw => by
  have q0 := hSw.cellv 6
  go_simp) ?_
 refine Kn.takeS 35 ⟨some 57, _, _, _, _, _⟩ ?_
 refine Kn.takeR 36 ⟨some 58, _, _, _, _, _⟩ fun K hK => ?_
 go_simp
 refine (zi_new_none HYn.out ⟨0, 0, 0, 0, 0⟩ rfl).mono ?_
 rintro en wm ⟨rfl, hd⟩
 have HYnn := Lib.hid hd
 clear hd
 clear HYn
 refine hK.out _ _ HYnn.out.zbox (fun hSn => ?_)
 clear hK K hSw0
 have hSw0 := hSn
 clear hSn
 refine Kn.takeS 37 ⟨some 59, _, _, _, _, _⟩ ?_
 refine Kn.takeS 38 ⟨some 60, _, _, _, _, _⟩ ?_
 refine wpAnyH_done (by kernel_rfl) ?_ _
 clear hSw0
 go_wp2_with fail
 go_loopg [3, 4] 6 (fun rr t3 t4 wr => ∃ (j : Nat) (a : Int), j + rr = 6 ∧ t4 = .int .i64 (j : Int) ∧ t3 = .int .i64 a ∧ (j = 6 → a = 17) ∧ ZI w wr k (awk j) L' [] [fun W => Bys W none 0 0 [], fun W => Ins W none 0 0 []])
 case atStart => exact ⟨0, 0, by omega, rfl, rfl, by omega, HYnn.out⟩
 obtain ⟨j, a, hj, rfl, rfl, ha, hd⟩ := hrel
 have HR := Lib.hid hd
 have HAA := Lib.hid ha
 clear hd ha HYnn
 by_cases hlt : j < 6
 ·have hlt2 : (j : Int) < 6 := by omega
  have HA := Lib.hid (aw_add j hlt)
  have HB := Lib.hid (aw_bnd j (by omega))
  have HJW : Hid ((Lit.int .i64 (j : Int)).wf = true) := Lib.hid (by simp [Lit.wf, IntKind.min, IntKind.max, IntKind.signed, IntKind.bits]; omega)
  go_wp2_with fail
  have HY := Lib.hid HR.out.drew
  clear HR
  refine wp_region_held_drew (S := (fun w' => Kn.Own w' k.Z k.box)) (by kernel_rfl) HY.out.zbox (fun hSw0 => ?_)
  generalize wr.drew = wz at *
  refine Kn.takeS 0 ⟨some 66, _, _, _, _, _⟩ ?_
  refine Kn.takeS 1 ⟨some 67, _, _, _, _, _⟩ ?_
  refine Kn.takeS 2 ⟨some 68, _, _, _, _, _⟩ ?_
  refine Kn.takeS 3 ⟨some 69, _, _, _, _, _⟩ (v := (.pointer (some ⟨k.W, 0, none⟩))) (hy := fun w hSw => by
   have q0 := hSw.cellv 8
   go_simp) ?_
  refine Kn.takeS 4 ⟨some 70, _, _, _, _, _⟩ ?_
  refine Kn.takeS 5 ⟨some 71, _, _, _, _, _⟩ ?_
  refine Kn.takeS 6 ⟨some 72, _, _, _, _, _⟩ ?_
  refine Kn.takeR 7 ⟨some 73, _, _, _, _, _⟩ fun K hK => ?_
  go_simp
  refine (fill_any (j : Int) _ HJW.out).mono ?_
  rintro en wf ⟨g, rfl, hg, hown, hO⟩
  have HYf := Lib.hid (HY.out.addFill hO hg hown)
  clear hg hown hO
  clear HY
  refine hK.out _ _ HYf.out.zbox (fun hSn => ?_)
  clear hK K hSw0
  have hSw0 := hSn
  clear hSn
  refine Kn.takeR 8 ⟨some 74, _, _, _, _, _⟩ fun K hK => ?_
  go_simp
  refine (zi_add_eq HYf.out HB.out HA.out List.mem_cons_self (by decide)).mono ?_
  rintro en wa ⟨rfl, hd⟩
  have HYfa := Lib.hid hd.fdrop
  clear hd
  clear HYf
  refine hK.out _ _ HYfa.out.zbox (fun hSn => ?_)
  clear hK K hSw0
  have hSw0 := hSn
  clear hSn
  refine Kn.takeS 9 ⟨some 65, _, _, _, _, _⟩ ?_
  refine Kn.takeS 10 ⟨some 75, _, _, _, _, _⟩ ?_
  refine Kn.takeS 11 ⟨some 76, _, _, _, _, _⟩ ?_
  refine Kn.takeS 12 ⟨some 5, _, _, _, _, _⟩ ?_
  refine Kn.takeS 13 ⟨some 6, _, _, _, _, _⟩ ?_
  refine wpAnyH_done (by kernel_rfl) ?_ _
  clear hSw0
  go_wp2
  go_roundg (gk - 1)
  case measure => omega
  case rel => exact ⟨j + 1, 12 + (j : Int), by omega, by go_num, rfl, by omega, HYfa.out⟩
 ·obtain rfl : j = 6 := by omega
  obtain rfl : a = 17 := HAA.out rfl
  go_wp2_with fail
  have HY := Lib.hid HR.out.drew
  clear HR
  refine wp_region_held_drew (S := (fun w' => Kn.Own w' k.Z k.box)) (by kernel_rfl) HY.out.zbox (fun hSw0 => ?_)
  generalize wr.drew = wz at *
  refine Kn.takeS 0 ⟨some 80, _, _, _, _, _⟩ ?_
  refine Kn.takeS 1 ⟨some 81, _, _, _, _, _⟩ ?_
  refine Kn.takeS 2 ⟨some 82, _, _, _, _, _⟩ ?_
  refine Kn.takeS 3 ⟨some 83, _, _, _, _, _⟩ (v := (.pointer (some ⟨k.W, 0, none⟩))) (hy := fun w hSw => by
   have q0 := hSw.cellv 8
   go_simp) ?_
  refine Kn.takeS 5 ⟨some 85, _, _, _, _, _⟩ ?_
  refine Kn.takeS 6 ⟨some 86, _, _, _, _, _⟩ ?_
  refine Kn.takeS 7 ⟨some 87, _, _, _, _, _⟩ ?_
  refine Kn.takeS 8 ⟨some 88, _, _, _, _, _⟩ (v := (.pointer (some ⟨k.p.D, 0, none⟩))) (hy := fun w hSw => by
   have q0 := hSw.cellv 0
   go_simp) ?_
  refine Kn.takeR 4 ⟨some 84, _, _, _, _, _⟩ fun K hK => ?_
  go_simp
  refine (zi_waiting HY.out).mono ?_
  rintro en wn ⟨rfl, rfl⟩
  refine hK.out _ _ HY.out.zbox (fun hSn => ?_)
  clear hK K hSw0
  have hSw0 := hSn
  clear hSn
  refine Kn.takeR 9 ⟨some 89, _, _, _, _, _⟩ fun K hK => ?_
  go_simp
  refine (zi_held HY.out).mono ?_
  rintro en wn ⟨rfl, rfl⟩
  refine hK.out _ _ HY.out.zbox (fun hSn => ?_)
  clear hK K hSw0
  have hSw0 := hSn
  clear hSn
  refine Kn.takeS 10 ⟨some 7, _, _, _, _, _⟩ ?_
  refine Kn.takeS 11 ⟨some 8, _, _, _, _, _⟩ ?_
  refine wpAnyH_done (by kernel_rfl) ?_ _
  clear hSw0
  have c0 := HY.out.zbox.cellv 8
  go_wp2_with fail
  refine (zi_read_eq HY.out HYB.out aw_read).mono ?_
  rintro en w3 ⟨A, n, c, rfl, hd⟩
  have H3 := Lib.hid hd
  clear hd HY c0
  have c0 := H3.out.zbox.cellv 8
  go_wp2_with fail
  refine (zi_add_eq H3.out HYB.out aw_next (List.mem_cons_of_mem _ List.mem_cons_self) (by decide)).mono ?_
  rintro en w4 ⟨rfl, hd⟩
  have H4 := Lib.hid hd
  clear hd H3 c0
  have c0 := H4.out.zbox.cellv 8
  go_wp2_with fail
  refine (zi_add_eq H4.out HYB.out HY6.out (List.mem_cons_of_mem _ List.mem_cons_self) (by decide)).mono ?_
  rintro en w5 ⟨rfl, hd⟩
  have H5 := Lib.hid hd
  clear hd H4 c0
  go_wp2_with fail
  refine (fill_any 5 _ (by decide)).mono ?_
  rintro en w6 ⟨g, rfl, hg, hown, hO⟩
  have H6 := Lib.hid (H5.out.addFill hO hg hown)
  clear hg hown hO H5
  go_wp2_with fail
  refine (alike_bytes_any A n c (fillB 5) (some ⟨g, 0, none⟩) 64 64 (fillB 5) _ (H6.out.fact (f := (fun W => Bys W A n c (fillB 5))) (by simp)) (H6.out.fact (f := (fun W => Bys W (some ⟨g, 0, none⟩) 64 64 (fillB 5))) (by simp))).mono ?_
  rintro en w7 ⟨rfl, nk, rfl⟩
  rw [decide_eq_true (rfl : fillB 5 = fillB 5)]
  have H7 := Lib.hid (H6.out.keep0 ((Only.refl _ _).drewN nk))
  clear H6
  have c0 := H7.out.zbox.cellv 2
  go_wp2_with fail
  refine (geom_seg_any k.gb c8 0 _ H7.out.geo c8ok).mono ?_
  rintro en w8 ⟨rfl, hO⟩
  have H8 := Lib.hid (H7.out.keep0 hO)
  clear hO H7 c0
  have hat : c8.at_ 0 = 10 := rfl
  rw [hat]
  have c0 := H8.out.zbox.cellv 0
  have c8 := H8.out.zbox.cellv 8
  go_wp2_with fail
  refine (zi_held H8.out).mono ?_
  rintro en w9 ⟨rfl, rfl⟩
  rw [HYH.out]
  go_wp2_with fail
  refine (zi_pos H8.out).mono ?_
  rw [HYO.out]
  rintro en w9 ⟨rfl, hO⟩
  have H9 := Lib.hid (H8.out.keep0 hO)
  clear hO H8 c0 c8
  have fp := field_pos15 y6.p.s 8 y6.p.l y6.p.p y6.p.m
  go_wp2_with fail
  refine (waiting_nil _).mono ?_
  rintro en w10 ⟨rfl, rfl⟩
  go_wp2
  go_ret
  exact ⟨rfl, H9.out.only⟩
end Go.Proofs.Ytgcfdjcpcclcjaa
namespace Go.Kn
open Go Go.RowKit
theorem and7 (x : Int) : 0 ≤ bits .and .i64 x 7 ∧ bits .and .i64 x 7 ≤ 63 := by
 have h : (BitVec.ofInt 64 x).toNat &&& 7 ≤ 7 := Nat.and_le_right
 have e : bits .and .i64 x 7 = IntKind.i64.wrap (((BitVec.ofInt 64 x).toNat &&& 7 : Nat) : Int) := by
  simp only [bits, BitVec.toNat_and]
  rfl
 rw [e, IntKind.wrap_i64]
 omega
end Go.Kn
namespace Go.Proofs.Ytgcfdjcpcclcjaa
open Go Go.RowKit Go.Kn
theorem field_pos015 (s o l p m : Int) (w : World) : (Instr.field 30 (.agg #[.int .i64 s, .int .i64 o, .int .i64 l, .int .i64 p, .int .i64 m]) 0).run Try.prog w = .ok (.int .i64 s) w := by kernel_rfl
theorem ivs_app15 (a b : List Int) : ivs (a ++ b) = ivs a ++ ivs b := by simp [ivs]
theorem ivs_one15 (l : List Int) : ∀ v ∈ ivs l, v.oneCell' = true := by
 intro v hv
 obtain ⟨x, _, rfl⟩ := List.mem_map.1 hv
 rfl
theorem ins_one15 (w : World) (x : Int) : Ins (w.alloc (.cells #[.int .i64 x] 3)) (some ⟨w.heap.size, 0, none⟩) 1 1 [x] := by
 have := Kn.Own.new w #[.int .i64 x] 3
 exact Row1.of_Own this rfl (Nat.le_refl _) (by decide)
set_option maxRecDepth 100000 in
set_option maxHeartbeats 16000000 in
theorem space15_any (a0 a1 : Int) (w : World) (w0 : (Lit.int .i64 a0).wf = true) (w1 : (Lit.int .i64 a1).wf = true) : Calls Try.prog 3 #[.int .i64 a0, .int .i64 a1] w fun e w' => e = .returned (.bool true) ∧ Only [] w w' := by
 have HW1 := Lib.hid w1
 have HX := Lib.hid (and7 a0)
 clear w0 w1
 have H1 := Lib.hid ((Wc.start w).gnew 3 1)
 go_enter Try.func3, Try.ntmps3
 go_wp2_with fail
 go_loopg [5, 6] 5 (fun rr t5 t6 wr => ∃ (j : Nat) (A : Option Addr) (c : Nat), j + rr = 5 ∧ t5 = .slice A j c ∧ t6 = .int .i64 ((j : Int) + 1) ∧ Wc w wr [] [⟨3, 1, .slice A j c, j, ivs (([1, 2, 3, 4, 5] : List Int).take j)⟩] [])
 case atStart => exact ⟨0, none, 0, by omega, rfl, rfl, H1.out⟩
 obtain ⟨j, A, c, hj, rfl, rfl, hd⟩ := hrel
 have HD := Lib.hid hd
 clear hd H1
 by_cases hlt : j < 5
 ·have hlt2 : (j : Int) < 5 := by omega
  have hlt8 : (j : Int) + 1 < 8 := by omega
  have hle : j + 1 ≤ maxLen := by unfold maxLen; omega
  have HTK : Hid (([1, 2, 3, 4, 5] : List Int).take j ++ [(j : Int) + 1] = ([1, 2, 3, 4, 5] : List Int).take (j + 1)) := Lib.hid (by
   obtain rfl | rfl | rfl | rfl | rfl : j = 0 ∨ j = 1 ∨ j = 2 ∨ j = 3 ∨ j = 4 := by omega
   all_goals rfl)
  have HAL := Lib.hid (HD.out.alloc (.cells #[.int .i64 ((j : Int) + 1)] 3))
  have HBS := Lib.hid HAL.out.only.size
  have HIN := Lib.hid (ins_one15 wr ((j : Int) + 1))
  clear HD
  obtain ⟨i0, hi0, hz0, hz1, hz2⟩ := info_parts Try.infoInt
  go_wp2_with (first
   | (at_builtin; go_loud (refine wpList_append_row1 rfl (.tmp 27) (.tmp 29) 22 rfl w.heap.size 3 i0 _ 8 Try.underlying22 hi0 hz0 hz1 hz2 rfl (.slice A j c) j (ivs (([1, 2, 3, 4, 5] : List Int).take j)) rfl (HAL.out.gi 0 rfl) _ 1 1 (ivs [(j : Int) + 1]) rfl HIN.out (ivs_one15 _) (by unfold maxLen; omega) (by omega) HBS.out ?_; intro v5 w5 hown5 hgrow5 hat5; rw [← ivs_app15, HTK.out] at hown5; have hdd := HAL.out.gapp 0 rfl hown5 hgrow5 hat5; obtain ⟨A5, c5, rfl⟩ := hdd.gform 0 rfl; simp only [List.set_cons_zero, List.set_cons_succ] at hdd; have HE := Lib.hid hdd; clear hdd hown5 hgrow5 hat5 HBS HAL HIN))
   | fail)
  clear hi0 hz0 hz1 hz2 i0
  go_wp2
  go_roundg (gk - 1)
  case measure => omega
  case rel => exact ⟨j + 1, A5, c5, by omega, rfl, by go_num, HE.out⟩
 ·obtain rfl : j = 5 := by omega
  have HF := Lib.hid (Wc.gout HD.out)
  clear HD
  go_wp2_with fail
  refine (small15_any _).mono ?_
  rintro en w1 ⟨rfl, hO⟩
  have H2 := Lib.hid (HF.out.keep0 hO)
  clear hO HF
  go_wp2_with fail
  refine (made8_any' w _ ⟨0, 0, 1, 0, 1⟩ A 5 c [1, 2, 3, 4, 5] ⟨[], [], [(fun W => Ins W A 5 c [1, 2, 3, 4, 5])]⟩ H2.out List.mem_cons_self (by decide) rfl (by decide) rfl).mono ?_
  rintro en w2 ⟨k, L', rfl, _, hd⟩
  obtain ⟨z0, hz0⟩ : ∃ z, (⟨Dk.new 202, tbMade 8 c8 0 [1, 2, 3, 4, 5], ⟨0, 0, 1, 0, 1⟩, [], []⟩ : Wr) = z := ⟨_, rfl⟩
  have hs0 : SpI 0 0 0 z0 := by
   rw [← hz0]
   exact { h := Hw.start c8ok _ rfl, s := rfl, po := rfl, ni := rfl, bn := rfl, l := by decide, held := by decide, st := by decide, ok := tbMade_ok 8 c8 0 [1, 2, 3, 4, 5] }
  have hd : ZI w w2 k z0 L' [] [(fun W => Ins W A 5 c [1, 2, 3, 4, 5])] := by
   rw [← hz0]
   exact hd
  have HM := Lib.hid hd
  have HS0 := Lib.hid hs0
  clear hd hs0 hz0 H2
  have c0 := HM.out.zbox.cellv 8
  have c6 := HM.out.zbox.cellv 6
  go_wp2_with fail
  refine (zi_free HM.out HS0.out.ok).mono ?_
  rw [HS0.out.free]
  rintro en w3 ⟨rfl, hO⟩
  have HN := Lib.hid (HM.out.keep0 hO)
  clear hO HM c0 c6
  go_wp2_with fail
  refine (round_any a1 30 _ HW1.out (by decide) (by decide)).mono ?_
  rintro en w4 ⟨rfl, rfl⟩
  obtain ⟨kk, hkk, hk30⟩ : ∃ kk : Nat, a1 % 30 = (kk : Int) ∧ kk < 30 := ⟨(a1 % 30).toNat, by omega, by omega⟩
  rw [hkk]
  have HRUN0 := Lib.hid (runSp_ok kk hk30)
  clear hkk
  go_wp2_with fail
  go_loopg [10] 60 (fun rr t10 wr => ∃ (j o n : Nat) (z : Wr), j + rr = 60 ∧ t10 = .int .i64 (j : Int) ∧ runSp kk rr j o n = true ∧ SpI o n (2 * j) z ∧ ZI w wr k z L' [] [(fun W => Ins W A 5 c [1, 2, 3, 4, 5])])
  case atStart => exact ⟨0, 0, 0, z0, by omega, rfl, HRUN0.out, HS0.out, HN.out⟩
  obtain ⟨j, o, n, z, hj, rfl, hrun, hs, hd⟩ := hrel
  have HR := Lib.hid hd
  have HS := Lib.hid hs
  have HRU := Lib.hid hrun
  clear hd hs hrun HRUN0 HN HS0
  have hg0 : gk ≠ 0 := by
   rintro rfl
   have := HRU.out
   cases this
  obtain ⟨g1, rfl⟩ : ∃ g1, gk = g1 + 1 := ⟨gk - 1, by omega⟩
  have hlt : j < 60 := by omega
  have hlt2 : (j : Int) < 60 := by omega
  have HJW : Hid ((Lit.int .i64 (j : Int)).wf = true) := Lib.hid (by simp [Lit.wf, IntKind.min, IntKind.max, IntKind.signed, IntKind.bits]; omega)
  have HB := Lib.hid (SpI.bnd HS.out (by omega))
  go_upto_region 13 with (fail)
  go_cut [11, 12, 13] (fun s11 s12 s13 wy => ∃ ff : Nat, s11 = .int .i64 z.d.acts ∧ s12 = .pointer (some ⟨ff, 0, none⟩) ∧ s13 = .int .i64 (z.its.length : Int) ∧ ZI w wy k z ((ff, [.int .i64 z.p.s, .int .i64 z.p.o, .int .i64 z.p.l, .int .i64 z.p.p, .int .i64 z.p.m]) :: L') [] [(fun W => Ins W A 5 c [1, 2, 3, 4, 5])])
  case first =>
   as_aux_lemma =>
    have HG := Lib.hid HR.out.drew
    clear HR
    refine wp_region_held_drew (S := (fun w' => Kn.Own w' k.Z k.box)) (by kernel_rfl) HG.out.zbox (fun hSw0 => ?_)
    generalize wr.drew = wz at *
    refine Kn.takeS 0 ⟨some 61, _, _, _, _, _⟩ ?_
    refine Kn.takeS 1 ⟨some 62, _, _, _, _, _⟩ ?_
    refine Kn.takeS 2 ⟨some 63, _, _, _, _, _⟩ ?_
    refine Kn.takeS 3 ⟨some 64, _, _, _, _, _⟩ (v := (.pointer (some ⟨k.p.D, 0, none⟩))) (hy := fun w hSw => by
     have q0 := hSw.cellv 0
     go_simp) ?_
    refine Kn.takeS 5 ⟨some 66, _, _, _, _, _⟩ ?_
    refine Kn.takeS 6 ⟨some 67, _, _, _, _, _⟩ ?_
    refine Kn.takeS 7 ⟨some 68, _, _, _, _, _⟩ ?_
    refine Kn.takeS 8 ⟨some 69, _, _, _, _, _⟩ (v := (.pointer (some ⟨k.W, 0, none⟩))) (hy := fun w hSw => by
     have q0 := hSw.cellv 8
     go_simp) ?_
    refine Kn.takeS 10 ⟨some 71, _, _, _, _, _⟩ ?_
    refine Kn.takeS 11 ⟨some 72, _, _, _, _, _⟩ ?_
    refine Kn.takeS 12 ⟨some 73, _, _, _, _, _⟩ ?_
    refine Kn.takeS 13 ⟨some 74, _, _, _, _, _⟩ (v := (.pointer (some ⟨k.W, 0, none⟩))) (hy := fun w hSw => by
     have q0 := hSw.cellv 8
     go_simp) ?_
    refine wpAnyH_ready (rs := [4, 15]) (by kernel_rfl) (by simp) ?_
    refine AllReadyH.cons (o := ⟨some 65, _, _, _, _, _⟩) rfl (fun K hK => ?_) ?_
    ·go_simp
     refine (zi_acts HG.out).mono ?_
     rintro en wn ⟨rfl, rfl⟩
     refine hK.out _ _ HG.out.zbox (fun hSn => ?_)
     clear hK K hSw0
     have hSw0 := hSn
     clear hSn
     refine wpAnyH_ready (rs := [9, 15]) (by kernel_rfl) (by simp) ?_
     refine AllReadyH.cons (o := ⟨some 70, _, _, _, _, _⟩) rfl (fun K hK => ?_) ?_
     ·go_simp
      refine (zi_pos HG.out).mono ?_
      rintro en wp ⟨rfl, hO⟩
      have HGp := Lib.hid (HG.out.keep0 hO)
      clear hO
      clear HG
      refine hK.out _ _ HGp.out.zbox (fun hSn => ?_)
      clear hK K hSw0
      have hSw0 := hSn
      clear hSn
      refine wpAnyH_ready (rs := [14, 15]) (by kernel_rfl) (by simp) ?_
      refine AllReadyH.cons (o := ⟨some 75, _, _, _, _, _⟩) rfl (fun K hK => ?_) ?_
      ·go_simp
       refine (zi_waiting HGp.out).mono ?_
       rintro en wn ⟨rfl, rfl⟩
       refine hK.out _ _ HGp.out.zbox (fun hSn => ?_)
       clear hK K hSw0
       have hSw0 := hSn
       clear hSn
       refine Kn.takeR 15 ⟨some 12, _, _, _, _, _⟩ fun K hK => ?_
       go_simp
       have HGpa := Lib.hid (ZI.newB HGp.out #[.int .i64 0, .int .i64 0, .int .i64 0, .int .i64 0, .int .i64 0] 30 rfl)
       generalize hvb : wp.alloc (.cells #[.int .i64 0, .int .i64 0, .int .i64 0, .int .i64 0, .int .i64 0] 30) = wy2 at *
       generalize hff : (World.heap wp).size = ff at *
       clear hvb hff
       clear HGp
       refine hK.out _ _ HGpa.out.zbox (fun hSn => ?_)
       clear hK K hSw0
       have hSw0 := hSn
       clear hSn
       refine Kn.takeS 16 ⟨some 11, _, _, _, _, _⟩ ?_
       refine Kn.takeR 17 ⟨none, _, _, _, _, _⟩ fun K hK => ?_
       refine step_store_own rfl 30 (.tmp 12) (.tmp 70) rfl ff [.int .i64 0, .int .i64 0, .int .i64 0, .int .i64 0, .int .i64 0] [.int .i64 z.p.s, .int .i64 z.p.o, .int .i64 z.p.l, .int .i64 z.p.p, .int .i64 z.p.m] (by kernel_rfl) rfl rfl (HGpa.out.box (x := (ff, [.int .i64 0, .int .i64 0, .int .i64 0, .int .i64 0, .int .i64 0])) List.mem_cons_self) rfl (by intro v hv; simp at hv; rcases hv with rfl | rfl | rfl | rfl | rfl <;> rfl) ?_
       intro wc2 ho9 hO9
       have HGpas := Lib.hid (HGpa.out.head ho9 hO9)
       clear ho9 hO9
       clear HGpa
       refine hK.out _ _ HGpas.out.zbox (fun hSn => ?_)
       clear hK K hSw0
       have hSw0 := hSn
       clear hSn
       refine Kn.takeS 18 ⟨some 13, _, _, _, _, _⟩ ?_
       refine wpAnyH_done (by kernel_rfl) ?_ _
       clear hSw0
       go_wp2
       go_meet
       case rel => exact ⟨ff, rfl, rfl, rfl, HGpas.out⟩
      refine AllReadyH.cons (o := ⟨some 12, _, _, _, _, _⟩) rfl (fun K hK => ?_) ?_
      ·go_simp
       have HGpa := Lib.hid (ZI.newB HGp.out #[.int .i64 0, .int .i64 0, .int .i64 0, .int .i64 0, .int .i64 0] 30 rfl)
       generalize hvb : wp.alloc (.cells #[.int .i64 0, .int .i64 0, .int .i64 0, .int .i64 0, .int .i64 0] 30) = wy2 at *
       generalize hff : (World.heap wp).size = ff at *
       clear hvb hff
       clear HGp
       refine hK.out _ _ HGpa.out.zbox (fun hSn => ?_)
       clear hK K hSw0
       have hSw0 := hSn
       clear hSn
       refine Kn.takeR 14 ⟨some 75, _, _, _, _, _⟩ fun K hK => ?_
       go_simp
       refine (zi_waiting HGpa.out).mono ?_
       rintro en wn ⟨rfl, rfl⟩
       refine hK.out _ _ HGpa.out.zbox (fun hSn => ?_)
       clear hK K hSw0
       have hSw0 := hSn
       clear hSn
       refine Kn.takeS 16 ⟨some 11, _, _, _, _, _⟩ ?_
       refine Kn.takeR 17 ⟨none, _, _, _, _, _⟩ fun K hK => ?_
       refine step_store_own rfl 30 (.tmp 12) (.tmp 70) rfl ff [.int .i64 0, .int .i64 0, .int .i64 0, .int .i64 0, .int .i64 0] [.int .i64 z.p.s, .int .i64 z.p.o, .int .i64 z.p.l, .int .i64 z.p.p, .int .i64 z.p.m] (by kernel_rfl) rfl rfl (HGpa.out.box (x := (ff, [.int .i64 0, .int .i64 0, .int .i64 0, .int .i64 0, .int .i64 0])) List.mem_cons_self) rfl (by intro v hv; simp at hv; rcases hv with rfl | rfl | rfl | rfl | rfl <;> rfl) ?_
       intro wc2 ho9 hO9
       have HGpas := Lib.hid (HGpa.out.head ho9 hO9)
       clear ho9 hO9
       clear HGpa
       refine hK.out _ _ HGpas.out.zbox (fun hSn => ?_)
       clear hK K hSw0
       have hSw0 := hSn
       clear hSn
       refine Kn.takeS 18 ⟨some 13, _, _, _, _, _⟩ ?_
       refine wpAnyH_done (by kernel_rfl) ?_ _
       clear hSw0
       go_wp2
       go_meet
       case rel => exact ⟨ff, rfl, rfl, rfl, HGpas.out⟩
      exact AllReadyH.nil
     refine AllReadyH.cons (o := ⟨some 12, _, _, _, _, _⟩) rfl (fun K hK => ?_) ?_
     ·go_simp
      have HGa := Lib.hid (ZI.newB HG.out #[.int .i64 0, .int .i64 0, .int .i64 0, .int .i64 0, .int .i64 0] 30 rfl)
      generalize hvb : wz.alloc (.cells #[.int .i64 0, .int .i64 0, .int .i64 0, .int .i64 0, .int .i64 0] 30) = wy2 at *
      generalize hff : (World.heap wz).size = ff at *
      clear hvb hff
      clear HG
      refine hK.out _ _ HGa.out.zbox (fun hSn => ?_)
      clear hK K hSw0
      have hSw0 := hSn
      clear hSn
      refine Kn.takeR 9 ⟨some 70, _, _, _, _, _⟩ fun K hK => ?_
      go_simp
      refine (zi_pos HGa.out).mono ?_
      rintro en wp ⟨rfl, hO⟩
      have HGap := Lib.hid (HGa.out.keep0 hO)
      clear hO
      clear HGa
      refine hK.out _ _ HGap.out.zbox (fun hSn => ?_)
      clear hK K hSw0
      have hSw0 := hSn
      clear hSn
      refine Kn.takeR 14 ⟨some 75, _, _, _, _, _⟩ fun K hK => ?_
      go_simp
      refine (zi_waiting HGap.out).mono ?_
      rintro en wn ⟨rfl, rfl⟩
      refine hK.out _ _ HGap.out.zbox (fun hSn => ?_)
      clear hK K hSw0
      have hSw0 := hSn
      clear hSn
      refine Kn.takeS 16 ⟨some 11, _, _, _, _, _⟩ ?_
      refine Kn.takeR 17 ⟨none, _, _, _, _, _⟩ fun K hK => ?_
      refine step_store_own rfl 30 (.tmp 12) (.tmp 70) rfl ff [.int .i64 0, .int .i64 0, .int .i64 0, .int .i64 0, .int .i64 0] [.int .i64 z.p.s, .int .i64 z.p.o, .int .i64 z.p.l, .int .i64 z.p.p, .int .i64 z.p.m] (by kernel_rfl) rfl rfl (HGap.out.box (x := (ff, [.int .i64 0, .int .i64 0, .int .i64 0, .int .i64 0, .int .i64 0])) List.mem_cons_self) rfl (by intro v hv; simp at hv; rcases hv with rfl | rfl | rfl | rfl | rfl <;> rfl) ?_
      intro wc2 ho9 hO9
      have HGaps := Lib.hid (HGap.out.head ho9 hO9)
      clear ho9 hO9
      clear HGap
      refine hK.out _ _ HGaps.out.zbox (fun hSn => ?_)
      clear hK K hSw0
      have hSw0 := hSn
      clear hSn
      refine Kn.takeS 18 ⟨some 13, _, _, _, _, _⟩ ?_
      refine wpAnyH_done (by kernel_rfl) ?_ _
      clear hSw0
      go_wp2
      go_meet
      case rel => exact ⟨ff, rfl, rfl, rfl, HGaps.out⟩
     exact AllReadyH.nil
    refine AllReadyH.cons (o := ⟨some 12, _, _, _, _, _⟩) rfl (fun K hK => ?_) ?_
    ·go_simp
     have HGa := Lib.hid (ZI.newB HG.out #[.int .i64 0, .int .i64 0, .int .i64 0, .int .i64 0, .int .i64 0] 30 rfl)
     generalize hvb : wz.alloc (.cells #[.int .i64 0, .int .i64 0, .int .i64 0, .int .i64 0, .int .i64 0] 30) = wy2 at *
     generalize hff : (World.heap wz).size = ff at *
     clear hvb hff
     clear HG
     refine hK.out _ _ HGa.out.zbox (fun hSn => ?_)
     clear hK K hSw0
     have hSw0 := hSn
     clear hSn
     refine Kn.takeR 4 ⟨some 65, _, _, _, _, _⟩ fun K hK => ?_
     go_simp
     refine (zi_acts HGa.out).mono ?_
     rintro en wn ⟨rfl, rfl⟩
     refine hK.out _ _ HGa.out.zbox (fun hSn => ?_)
     clear hK K hSw0
     have hSw0 := hSn
     clear hSn
     refine Kn.takeR 9 ⟨some 70, _, _, _, _, _⟩ fun K hK => ?_
     go_simp
     refine (zi_pos HGa.out).mono ?_
     rintro en wp ⟨rfl, hO⟩
     have HGap := Lib.hid (HGa.out.keep0 hO)
     clear hO
     clear HGa
     refine hK.out _ _ HGap.out.zbox (fun hSn => ?_)
     clear hK K hSw0
     have hSw0 := hSn
     clear hSn
     refine Kn.takeR 14 ⟨some 75, _, _, _, _, _⟩ fun K hK => ?_
     go_simp
     refine (zi_waiting HGap.out).mono ?_
     rintro en wn ⟨rfl, rfl⟩
     refine hK.out _ _ HGap.out.zbox (fun hSn => ?_)
     clear hK K hSw0
     have hSw0 := hSn
     clear hSn
     refine Kn.takeS 16 ⟨some 11, _, _, _, _, _⟩ ?_
     refine Kn.takeR 17 ⟨none, _, _, _, _, _⟩ fun K hK => ?_
     refine step_store_own rfl 30 (.tmp 12) (.tmp 70) rfl ff [.int .i64 0, .int .i64 0, .int .i64 0, .int .i64 0, .int .i64 0] [.int .i64 z.p.s, .int .i64 z.p.o, .int .i64 z.p.l, .int .i64 z.p.p, .int .i64 z.p.m] (by kernel_rfl) rfl rfl (HGap.out.box (x := (ff, [.int .i64 0, .int .i64 0, .int .i64 0, .int .i64 0, .int .i64 0])) List.mem_cons_self) rfl (by intro v hv; simp at hv; rcases hv with rfl | rfl | rfl | rfl | rfl <;> rfl) ?_
     intro wc2 ho9 hO9
     have HGaps := Lib.hid (HGap.out.head ho9 hO9)
     clear ho9 hO9
     clear HGap
     refine hK.out _ _ HGaps.out.zbox (fun hSn => ?_)
     clear hK K hSw0
     have hSw0 := hSn
     clear hSn
     refine Kn.takeS 18 ⟨some 13, _, _, _, _, _⟩ ?_
     refine wpAnyH_done (by kernel_rfl) ?_ _
     clear hSw0
     go_wp2
     go_meet
     case rel => exact ⟨ff, rfl, rfl, rfl, HGaps.out⟩
    exact AllReadyH.nil
  case rest =>
   obtain ⟨ff, rfl, rfl, rfl, hd⟩ := hcut
   have HC := Lib.hid hd
   clear hd HR
   rcases HS.out.add (x := (bits .and .i64 a0 7)) (b := fillB (j : Int)) (by omega) HX.out (fillB_length _) with ⟨ha, hA, y, hA2, hfr, hps, hil, hok⟩ | ⟨o', n', ha, he, hs2⟩
   ·have HA := Lib.hid hA
    have HA2 := Lib.hid hA2
    have HFR := Lib.hid HS.out.free
    have HF1 := Lib.hid hfr
    have HPS := Lib.hid hps
    have HIL := Lib.hid hil
    have HOK := Lib.hid hok
    clear hA hA2 hfr hps hil ha hok
    go_wp2_with fail
    have HY := Lib.hid HC.out.drew
    clear HC
    refine wp_region_held_drew (S := (fun w' => Kn.Own w' k.Z k.box)) (by kernel_rfl) HY.out.zbox (fun hSw0 => ?_)
    generalize wc.drew = wz at *
    refine Kn.takeS 0 ⟨some 77, _, _, _, _, _⟩ ?_
    refine Kn.takeS 1 ⟨some 78, _, _, _, _, _⟩ ?_
    refine Kn.takeS 2 ⟨some 79, _, _, _, _, _⟩ ?_
    refine Kn.takeS 3 ⟨some 80, _, _, _, _, _⟩ (v := (.pointer (some ⟨k.W, 0, none⟩))) (hy := fun w hSw => by
     have q0 := hSw.cellv 8
     go_simp) ?_
    refine Kn.takeS 4 ⟨some 81, _, _, _, _, _⟩ ?_
    refine Kn.takeS 5 ⟨some 82, _, _, _, _, _⟩ (v := (.int .i64 (bits .and .i64 a0 7))) (hy := fun w hSw => by
     go_simp) ?_
    refine Kn.takeS 6 ⟨some 83, _, _, _, _, _⟩ ?_
    refine Kn.takeS 7 ⟨some 84, _, _, _, _, _⟩ ?_
    refine Kn.takeR 8 ⟨some 85, _, _, _, _, _⟩ fun K hK => ?_
    go_simp
    refine (fill_any (j : Int) _ HJW.out).mono ?_
    rintro en wf ⟨g, rfl, hg, hown, hO⟩
    have HYf := Lib.hid (HY.out.addFill hO hg hown)
    clear hg hown hO
    clear HY
    refine hK.out _ _ HYf.out.zbox (fun hSn => ?_)
    clear hK K hSw0
    have hSw0 := hSn
    clear hSn
    refine Kn.takeR 9 ⟨some 86, _, _, _, _, _⟩ fun K hK => ?_
    go_simp
    refine (zi_add_eq HYf.out HB.out HA.out List.mem_cons_self (by decide)).mono ?_
    rintro en wa ⟨rfl, hd⟩
    have HYfa := Lib.hid hd.fdrop
    clear hd
    clear HYf
    refine hK.out _ _ HYfa.out.zbox (fun hSn => ?_)
    clear hK K hSw0
    have hSw0 := hSn
    clear hSn
    refine Kn.takeS 10 ⟨some 76, _, _, _, _, _⟩ ?_
    refine Kn.takeS 11 ⟨some 87, _, _, _, _, _⟩ ?_
    refine Kn.takeS 12 ⟨some 88, _, _, _, _, _⟩ ?_
    refine Kn.takeS 13 ⟨some 14, _, _, _, _, _⟩ ?_
    refine Kn.takeS 14 ⟨some 15, _, _, _, _, _⟩ ?_
    refine wpAnyH_done (by kernel_rfl) ?_ _
    clear hSw0
    go_wp2_with fail
    have HV := Lib.hid HYfa.out.drew
    clear HYfa
    refine wp_region_held_drew (S := (fun w' => Kn.Own w' k.Z k.box ∧ Kn.Own w' ff [.int .i64 z.p.s, .int .i64 z.p.o, .int .i64 z.p.l, .int .i64 z.p.p, .int .i64 z.p.m])) (by kernel_rfl) ⟨HV.out.zbox, HV.out.box (x := (ff, [.int .i64 z.p.s, .int .i64 z.p.o, .int .i64 z.p.l, .int .i64 z.p.p, .int .i64 z.p.m])) List.mem_cons_self⟩ (fun hSw0 => ?_)
    generalize wa.drew = wz2 at *
    refine Kn.takeS 0 ⟨some 91, _, _, _, _, _⟩ ?_
    refine Kn.takeS 1 ⟨some 92, _, _, _, _, _⟩ ?_
    refine Kn.takeS 2 ⟨some 93, _, _, _, _, _⟩ ?_
    refine Kn.takeS 3 ⟨some 94, _, _, _, _, _⟩ (v := (.pointer (some ⟨k.p.D, 0, none⟩))) (hy := fun w hSw => by
     have q0 := hSw.1.cellv 0
     go_simp) ?_
    refine Kn.takeS 5 ⟨some 96, _, _, _, _, _⟩ ?_
    refine Kn.takeR 4 ⟨some 95, _, _, _, _, _⟩ fun K hK => ?_
    go_simp
    refine (zi_acts HV.out).mono ?_
    rintro en wn ⟨rfl, rfl⟩
    refine hK.out _ _ ⟨HV.out.zbox, HV.out.box (x := (ff, [.int .i64 z.p.s, .int .i64 z.p.o, .int .i64 z.p.l, .int .i64 z.p.p, .int .i64 z.p.m])) List.mem_cons_self⟩ (fun hSn => ?_)
    clear hK K hSw0
    have hSw0 := hSn
    clear hSn
    refine Kn.takeS 6 ⟨some 97, _, _, _, _, _⟩ ?_
    refine Kn.takeS 7 ⟨some 98, _, _, _, _, _⟩ ?_
    refine Kn.takeS 8 ⟨some 99, _, _, _, _, _⟩ ?_
    refine Kn.takeS 9 ⟨some 100, _, _, _, _, _⟩ ?_
    refine Kn.takeS 10 ⟨some 101, _, _, _, _, _⟩ ?_
    refine Kn.takeS 11 ⟨some 102, _, _, _, _, _⟩ (v := (.pointer (some ⟨k.W, 0, none⟩))) (hy := fun w hSw => by
     have q0 := hSw.1.cellv 8
     go_simp) ?_
    refine Kn.takeS 13 ⟨some 104, _, _, _, _, _⟩ (v := (.agg #[.int .i64 z.p.s, .int .i64 z.p.o, .int .i64 z.p.l, .int .i64 z.p.p, .int .i64 z.p.m])) (hy := fun w hSw => by
     obtain ⟨q0, q1, q2, q3, q4⟩ := own5 hSw.2
     go_simp) ?_
    refine Kn.takeR 12 ⟨some 103, _, _, _, _, _⟩ fun K hK => ?_
    go_simp
    refine (zi_pos HV.out).mono ?_
    rintro en wp ⟨rfl, hO⟩
    have HVp := Lib.hid (HV.out.keep0 hO)
    clear hO
    clear HV
    refine hK.out _ _ ⟨HVp.out.zbox, HVp.out.box (x := (ff, [.int .i64 z.p.s, .int .i64 z.p.o, .int .i64 z.p.l, .int .i64 z.p.p, .int .i64 z.p.m])) List.mem_cons_self⟩ (fun hSn => ?_)
    clear hK K hSw0
    have hSw0 := hSn
    clear hSn
    refine Kn.takeS 14 ⟨some 105, _, _, _, _, _⟩ ?_
    refine Kn.takeS 15 ⟨some 106, _, _, _, _, _⟩ ?_
    refine Kn.takeS 16 ⟨some 107, _, _, _, _, _⟩ ?_
    refine Kn.takeS 17 ⟨some 108, _, _, _, _, _⟩ ?_
    refine Kn.takeS 18 ⟨some 109, _, _, _, _, _⟩ ?_
    refine Kn.takeS 19 ⟨some 110, _, _, _, _, _⟩ ?_
    refine Kn.takeS 20 ⟨some 111, _, _, _, _, _⟩ (v := (.pointer (some ⟨k.W, 0, none⟩))) (hy := fun w hSw => by
     have q0 := hSw.1.cellv 8
     go_simp) ?_
    refine Kn.takeS 22 ⟨some 113, _, _, _, _, _⟩ ?_
    refine Kn.takeR 21 ⟨some 112, _, _, _, _, _⟩ fun K hK => ?_
    go_simp
    refine (zi_waiting HVp.out).mono ?_
    rintro en wn ⟨rfl, rfl⟩
    refine hK.out _ _ ⟨HVp.out.zbox, HVp.out.box (x := (ff, [.int .i64 z.p.s, .int .i64 z.p.o, .int .i64 z.p.l, .int .i64 z.p.p, .int .i64 z.p.m])) List.mem_cons_self⟩ (fun hSn => ?_)
    clear hK K hSw0
    have hSw0 := hSn
    clear hSn
    refine Kn.takeS 23 ⟨some 114, _, _, _, _, _⟩ ?_
    refine Kn.takeS 24 ⟨some 115, _, _, _, _, _⟩ ?_
    refine Kn.takeS 25 ⟨some 116, _, _, _, _, _⟩ ?_
    refine Kn.takeS 26 ⟨some 117, _, _, _, _, _⟩ ?_
    refine Kn.takeS 27 ⟨some 118, _, _, _, _, _⟩ ?_
    refine Kn.takeS 28 ⟨some 119, _, _, _, _, _⟩ ?_
    refine Kn.takeS 29 ⟨some 120, _, _, _, _, _⟩ (v := (.pointer (some ⟨k.q.T, 0, none⟩))) (hy := fun w hSw => by
     have q0 := hSw.1.cellv 6
     go_simp) ?_
    refine Kn.takeR 30 ⟨some 121, _, _, _, _, _⟩ fun K hK => ?_
    go_simp
    refine (zi_free HVp.out HB.out.ok).mono ?_
    rw [HFR.out]
    rintro en wq ⟨rfl, hO⟩
    have HVpe := Lib.hid (HVp.out.keep0 hO)
    clear hO
    clear HVp
    refine hK.out _ _ ⟨HVpe.out.zbox, HVpe.out.box (x := (ff, [.int .i64 z.p.s, .int .i64 z.p.o, .int .i64 z.p.l, .int .i64 z.p.p, .int .i64 z.p.m])) List.mem_cons_self⟩ (fun hSn => ?_)
    clear hK K hSw0
    have hSw0 := hSn
    clear hSn
    refine Kn.takeS 31 ⟨some 122, _, _, _, _, _⟩ ?_
    refine Kn.takeS 32 ⟨some 123, _, _, _, _, _⟩ ?_
    refine wpAnyH_done (by kernel_rfl) ?_ _
    clear hSw0
    go_wp2_with fail
    have HU := Lib.hid HVpe.out.drew
    clear HVpe
    refine wp_region_held_drew (S := (fun w' => Kn.Own w' k.Z k.box)) (by kernel_rfl) HU.out.zbox (fun hSw0 => ?_)
    generalize wq.drew = wz3 at *
    refine Kn.takeS 0 ⟨some 125, _, _, _, _, _⟩ ?_
    refine Kn.takeS 1 ⟨some 126, _, _, _, _, _⟩ ?_
    refine Kn.takeS 2 ⟨some 127, _, _, _, _, _⟩ ?_
    refine Kn.takeS 3 ⟨some 128, _, _, _, _, _⟩ (v := (.pointer (some ⟨k.W, 0, none⟩))) (hy := fun w hSw => by
     have q0 := hSw.cellv 8
     go_simp) ?_
    refine Kn.takeS 4 ⟨some 129, _, _, _, _, _⟩ ?_
    refine Kn.takeS 5 ⟨some 130, _, _, _, _, _⟩ (v := (.int .i64 (bits .and .i64 a0 7))) (hy := fun w hSw => by
     go_simp) ?_
    refine Kn.takeS 6 ⟨some 131, _, _, _, _, _⟩ ?_
    refine Kn.takeS 7 ⟨some 132, _, _, _, _, _⟩ ?_
    refine Kn.takeR 8 ⟨some 133, _, _, _, _, _⟩ fun K hK => ?_
    go_simp
    refine (fill_any (j : Int) _ HJW.out).mono ?_
    rintro en wf ⟨g, rfl, hg, hown, hO⟩
    have HUf := Lib.hid (HU.out.addFill hO hg hown)
    clear hg hown hO
    clear HU
    refine hK.out _ _ HUf.out.zbox (fun hSn => ?_)
    clear hK K hSw0
    have hSw0 := hSn
    clear hSn
    refine Kn.takeR 9 ⟨some 134, _, _, _, _, _⟩ fun K hK => ?_
    go_simp
    refine (zi_add_eq HUf.out HB.out HA2.out List.mem_cons_self (by decide)).mono ?_
    rintro en wa ⟨rfl, hd⟩
    have HUfa := Lib.hid hd.fdrop
    clear hd
    clear HUf
    refine hK.out _ _ HUfa.out.zbox (fun hSn => ?_)
    clear hK K hSw0
    have hSw0 := hSn
    clear hSn
    refine Kn.takeS 10 ⟨some 124, _, _, _, _, _⟩ ?_
    refine Kn.takeS 11 ⟨some 135, _, _, _, _, _⟩ ?_
    refine Kn.takeS 12 ⟨some 136, _, _, _, _, _⟩ ?_
    refine Kn.takeS 13 ⟨some 16, _, _, _, _, _⟩ ?_
    refine Kn.takeS 14 ⟨some 17, _, _, _, _, _⟩ ?_
    refine wpAnyH_done (by kernel_rfl) ?_ _
    clear hSw0
    have c6 := HUfa.out.zbox.cellv 6
    have cw := HUfa.out.zbox.cellv 8
    go_wp2_with fail
    refine (zi_free HUfa.out HOK.out).mono ?_
    rw [HF1.out]
    rintro en w9 ⟨rfl, hO⟩
    have H9 := Lib.hid (HUfa.out.keep0 hO)
    clear hO HUfa c6 cw
    have cw := H9.out.zbox.cellv 8
    go_wp2_with fail
    refine (zi_pos H9.out).mono ?_
    rintro en w10 ⟨rfl, hO⟩
    have H10 := Lib.hid (H9.out.keep0 hO)
    clear hO H9 cw
    have cw := H10.out.zbox.cellv 8
    have fp := field_pos015 y.p.s y.p.o y.p.l y.p.p y.p.m
    have hne : (y.p.s != 0) = true := bne_iff_ne.2 HPS.out
    go_wp2_with fail
    refine (zi_waiting H10.out).mono ?_
    rw [HIL.out]
    rintro en w11 ⟨rfl, rfl⟩
    go_wp2_with fail
    refine (awake15_any _).mono ?_
    rintro en w12 ⟨rfl, hO⟩
    have HO := Lib.hid (H10.out.only.trans' hO)
    clear hO H10
    go_wp2
    go_ret
    exact ⟨rfl, HO.out⟩
   ·obtain ⟨y, hy⟩ : ∃ y, z.add c8 (spIt (bits .and .i64 a0 7)) (fillB (j : Int)) false = y := ⟨_, rfl⟩
    obtain ⟨y, ya, ye⟩ := y
    rw [hy] at he hs2
    simp only at he hs2
    subst he
    have HA := Lib.hid hy
    have HS2 := Lib.hid hs2
    clear hy hs2
    go_wp2_with fail
    have HY := Lib.hid HC.out.drew
    clear HC
    refine wp_region_held_drew (S := (fun w' => Kn.Own w' k.Z k.box)) (by kernel_rfl) HY.out.zbox (fun hSw0 => ?_)
    generalize wc.drew = wz at *
    refine Kn.takeS 0 ⟨some 77, _, _, _, _, _⟩ ?_
    refine Kn.takeS 1 ⟨some 78, _, _, _, _, _⟩ ?_
    refine Kn.takeS 2 ⟨some 79, _, _, _, _, _⟩ ?_
    refine Kn.takeS 3 ⟨some 80, _, _, _, _, _⟩ (v := (.pointer (some ⟨k.W, 0, none⟩))) (hy := fun w hSw => by
     have q0 := hSw.cellv 8
     go_simp) ?_
    refine Kn.takeS 4 ⟨some 81, _, _, _, _, _⟩ ?_
    refine Kn.takeS 5 ⟨some 82, _, _, _, _, _⟩ (v := (.int .i64 (bits .and .i64 a0 7))) (hy := fun w hSw => by
     go_simp) ?_
    refine Kn.takeS 6 ⟨some 83, _, _, _, _, _⟩ ?_
    refine Kn.takeS 7 ⟨some 84, _, _, _, _, _⟩ ?_
    refine Kn.takeR 8 ⟨some 85, _, _, _, _, _⟩ fun K hK => ?_
    go_simp
    refine (fill_any (j : Int) _ HJW.out).mono ?_
    rintro en wf ⟨g, rfl, hg, hown, hO⟩
    have HYf := Lib.hid (HY.out.addFill hO hg hown)
    clear hg hown hO
    clear HY
    refine hK.out _ _ HYf.out.zbox (fun hSn => ?_)
    clear hK K hSw0
    have hSw0 := hSn
    clear hSn
    refine Kn.takeR 9 ⟨some 86, _, _, _, _, _⟩ fun K hK => ?_
    go_simp
    refine (zi_add_eq HYf.out HB.out HA.out List.mem_cons_self (by decide)).mono ?_
    rintro en wa ⟨rfl, hd⟩
    have HYfa := Lib.hid hd.fdrop
    clear hd
    clear HYf
    refine hK.out _ _ HYfa.out.zbox (fun hSn => ?_)
    clear hK K hSw0
    have hSw0 := hSn
    clear hSn
    refine Kn.takeS 10 ⟨some 76, _, _, _, _, _⟩ ?_
    refine Kn.takeS 11 ⟨some 87, _, _, _, _, _⟩ ?_
    refine Kn.takeS 12 ⟨some 88, _, _, _, _, _⟩ ?_
    refine Kn.takeS 13 ⟨some 14, _, _, _, _, _⟩ ?_
    refine Kn.takeS 14 ⟨some 15, _, _, _, _, _⟩ ?_
    refine wpAnyH_done (by kernel_rfl) ?_ _
    clear hSw0
    have hrn : (if j % 30 = kk then runSp kk g1 (j + 1) (absEmit o' n').1 (absEmit o' n').2 else runSp kk g1 (j + 1) o' n') = true := by
     have := HRU.out
     unfold runSp at this
     rw [ha] at this
     exact this
    have HRN := Lib.hid hrn
    have hm30 : (j : Int) % 30 = ((j % 30 : Nat) : Int) := by omega
    obtain ⟨mm, hmm⟩ : ∃ m, j % 30 = m := ⟨_, rfl⟩
    rw [hmm] at hm30
    have HMM := Lib.hid hmm
    clear hrn hmm HRU ha
    have cw := HYfa.out.zbox.cellv 8
    by_cases hk : (mm : Int) = (kk : Int)
    ·obtain ⟨he, hs3⟩ := HS2.out.emit (by omega)
     obtain ⟨⟨y2, e2⟩, hy2⟩ : ∃ y2, y.emit c8 = y2 := ⟨_, rfl⟩
     rw [hy2] at he hs3
     simp only at he hs3
     subst he
     have HE := Lib.hid hy2
     have HS3 := Lib.hid hs3
     have HB2 := Lib.hid (SpI.bnd HS2.out (by omega))
     clear hy2 hs3
     go_wp2_with fail
     refine (zi_emit_eq HYfa.out HB2.out HE.out).mono ?_
     rintro en w9 ⟨rfl, hd⟩
     have HZ := Lib.hid hd.ldrop
     clear hd HYfa cw
     go_wp2
     go_roundg g1
     case measure => omega
     case rel =>
      have hr := HRN.out
      have hmm := HMM.out
      rw [if_pos (by omega)] at hr
      exact ⟨j + 1, _, _, y2, by omega, by go_num, hr, HS3.out, HZ.out⟩
    ·go_wp2
     go_roundg g1
     case measure => omega
     case rel =>
      have hr := HRN.out
      have hmm := HMM.out
      rw [if_neg (by omega)] at hr
      have hs4 := HS2.out
      exact ⟨j + 1, o', n', y, by omega, by go_num, hr, { h := hs4.h, s := hs4.s, po := hs4.po, ni := hs4.ni, bn := hs4.bn, l := by have := hs4.l; push_cast at this ⊢; omega, held := by have := hs4.held; omega, st := hs4.st, ok := hs4.ok }, HYfa.out.ldrop⟩
end Go.Proofs.Ytgcfdjcpcclcjaa
