/- WrJ, Awake15, SpaT, WrK, PlcQ, PlaT: joined by pack.py, without what the claim does not use. -/
import Derived.Test.YtgcfdjcpcclcjaaWriterPlacesE
set_option linter.unusedVariables false
set_option linter.unusedSimpArgs false
namespace Go.Proofs.Ytgcfdjcpcclcjaa
open Go Go.RowKit Go.Kn
/-- where all of it lies -/
structure Zp where
 p : PD
 r : RD
 W : Nat
 gb : Nat
 q : TD
 u : RT
 Z : Nat
 X : Nat
def Zp.box (k : Zp) : List Value := ZBx k.p k.r k.gb c8 k.q k.u (.pointer (some ⟨k.W, 0, none⟩)) (.pointer (some ⟨k.X, 0, none⟩))
def GE8 (gb : Nat) (W : World) : Prop := GeoAt W gb 8 8 24
def ZI (w0 w : World) (k : Zp) (z : Wr) (L : List (Nat × List Value)) (G : List Gs) (F : List (World → Prop)) : Prop :=
 k.q.n = 8 ∧ WrIn w0 w k.p k.r (Dk.new 202) k.W k.gb k.q z ((k.Z, k.box) :: L) G (GE8 k.gb :: F)
/-- numbers that are small -/
structure Bnd (z : Wr) : Prop where
 ok : z.t.Ok 8
 s : 0 ≤ z.p.s ∧ z.p.s ≤ 7
 o : 0 ≤ z.p.o ∧ z.p.o ≤ 23
 l : 1 ≤ z.p.l ∧ z.p.l ≤ 100000
 held : z.d.held.length ≤ 100000
 its : z.its.length ≤ 6
 bl : z.bl.length ≤ 6
 f64 : ∀ b ∈ z.bl, b.length = 64
theorem full_all {bl : List (List UInt8)} (h : full64 bl = true) : ∀ b ∈ bl, b.length = 64 := fun b hb => by
 have := List.all_eq_true.1 h b hb
 simpa using this
theorem SpI.bnd {o n m : Nat} {z : Wr} (h : SpI o n m z) (hm : m ≤ 300) : Bnd z := by
 have h1 := h.l
 have h2 := h.held
 have h3 := h.h.six
 have h4 := bl_le h.h
 exact { ok := h.ok, s := h.h.s, o := h.h.o, l := ⟨h.h.l, by omega⟩, held := by omega, its := h3, bl := by omega, f64 := full_all h.h.f64 }
theorem PI.bnd {tn : Nat} {pot : Int} {z : Wr} (h : PI tn pot z) (hp : pot ≤ 400) : Bnd z := by
 have h1 := h.l
 have h2 := h.held
 have h3 := h.h.six
 have h4 := bl_le h.h
 have h5 := h.tn7
 exact { ok := h.ok, s := h.h.s, o := h.h.o, l := ⟨h.h.l, by omega⟩, held := by omega, its := h3, bl := by omega, f64 := full_all h.h.f64 }
section
variable {w0 w w' : World} {k : Zp} {z : Wr} {L : List (Nat × List Value)} {G : List Gs} {F : List (World → Prop)}
theorem ZI.duo (h : ZI w0 w k z L G F) : ∃ L' G' F', Duo w0 w k.p k.r z.d (Dk.new 202) ⟨(k.W, L') :: k.q.L z.t ((k.Z, k.box) :: L), G', F'⟩ := by
 obtain ⟨_, A, c, B, m, sl, h⟩ := h
 exact ⟨_, _, _, h⟩
theorem ZI.only (h : ZI w0 w k z L G F) : Only [] w0 w := by
 obtain ⟨_, _, _, h⟩ := h.duo
 exact h.only
theorem ZI.keep0 (h : ZI w0 w k z L G F) (hO : Only [] w w') : ZI w0 w' k z L G F := by
 obtain ⟨hq, A, c, B, m, sl, h⟩ := h
 exact ⟨hq, A, c, B, m, sl, h.keep0 hO⟩
theorem ZI.drew (h : ZI w0 w k z L G F) : ZI w0 w.drew k z L G F := h.keep0 (Only.refl _ _).drew
theorem ZI.zbox (h : ZI w0 w k z L G F) : Kn.Own w k.Z k.box := by
 obtain ⟨_, _, _, h⟩ := h.duo
 exact h.boxi 4 rfl
theorem ZI.box (h : ZI w0 w k z L G F) {x : Nat × List Value} (hx : x ∈ L) : Kn.Own w x.1 x.2 := by
 obtain ⟨_, _, _, h⟩ := h.duo
 exact h.box (x := x) (by unfold TD.L; simp [hx])
theorem ZI.fact (h : ZI w0 w k z L G F) {f : World → Prop} (hf : f ∈ F) : f w := by
 obtain ⟨_, A, c, B, m, sl, h⟩ := h
 exact h.fact (by simp [hf])
theorem ZI.geo (h : ZI w0 w k z L G F) : GeoAt w k.gb c8.b c8.s c8.l := by
 obtain ⟨_, A, c, B, m, sl, h⟩ := h
 exact h.fact (f := GE8 k.gb) (by simp)
theorem ZI.newB (h : ZI w0 w k z L G F) (cs : Array Value) (t : TypeId) {b : Nat} (hb : w.heap.size = b) : ZI w0 (w.alloc (.cells cs t)) k z ((b, cs.toList) :: L) G F := by
 obtain ⟨hq, A, c, B, m, sl, h⟩ := h
 exact ⟨hq, A, c, B, m, sl, (h.newB cs t hb).permL (perm_any (fun c => by simp only [TD.L, List.map_cons, List.sum_cons]; omega))⟩
theorem ZI.ldrop {x : Nat × List Value} (h : ZI w0 w k z (x :: L) G F) : ZI w0 w k z L G F := by
 obtain ⟨hq, A, c, B, m, sl, h⟩ := h
 exact ⟨hq, A, c, B, m, sl, Duo.ldrop (x := x) (h.permL (perm_any (fun c => by simp only [TD.L, List.map_cons, List.sum_cons]; omega)))⟩
theorem ZI.head {b : Nat} {xs ys : List Value} (h : ZI w0 w k z ((b, xs) :: L) G F) (ho : Kn.Own w' b ys) (hO : Only [b] w w') : ZI w0 w' k z ((b, ys) :: L) G F := by
 obtain ⟨hq, A, c, B, m, sl, h⟩ := h
 exact ⟨hq, A, c, B, m, sl, h.call 5 rfl ho hO⟩
theorem ZI.addFc (h : ZI w0 w k z L G F) (hO : Only [] w w') {f : World → Prop} (hf : Fc w' (fun j => j < w.heap.size) f) : ZI w0 w' k z L G (f :: F) := by
 obtain ⟨hq, A, c, B, m, sl, h⟩ := h
 refine ⟨hq, A, c, B, m, sl, (h.addFc hO hf).subF fun g hg => ?_⟩
 simp only [List.mem_cons] at hg ⊢
 rcases hg with h | h | h | h <;> simp [h]
theorem ZI.subF (h : ZI w0 w k z L G F) {F' : List (World → Prop)} (hF : ∀ f ∈ F', f ∈ F) : ZI w0 w k z L G F' := by
 obtain ⟨hq, A, c, B, m, sl, h⟩ := h
 refine ⟨hq, A, c, B, m, sl, h.subF fun g hg => ?_⟩
 simp only [List.mem_cons] at hg ⊢
 rcases hg with h | h | h
 ·exact .inl h
 ·exact .inr (.inl h)
 ·exact .inr (.inr (hF _ h))
theorem ZI.fdrop {f : World → Prop} (h : ZI w0 w k z L G (f :: F)) : ZI w0 w k z L G F := h.subF fun g hg => List.mem_cons_of_mem _ hg
/-- a block that was filled -/
theorem ZI.addBy (h : ZI w0 w k z L G F) (hO : Only [] w w') {g : Nat} {b : List UInt8} (hg : w.heap.size ≤ g) (ho : Kn.Own w' g (bvs b)) (hl : b.length ≤ 64) : ZI w0 w' k z L G ((fun W => Bys W (some ⟨g, 0, none⟩) b.length b.length b) :: F) :=
 h.addFc hO (Row1.fc (Row1.of_Own ho (by rw [bvs_length]) (Nat.le_refl _) (Nat.le_trans hl (by decide))) (fun _ a ha => by injection ha with ha; subst ha; exact Nat.not_lt.2 hg))
theorem ZI.addFill (h : ZI w0 w k z L G F) (hO : Only [] w w') {g : Nat} {x : Int} (hg : w.heap.size ≤ g) (ho : Kn.Own w' g (bvs (fillB x))) : ZI w0 w' k z L G ((fun W => Bys W (some ⟨g, 0, none⟩) 64 64 (fillB x)) :: F) := by
 have := h.addBy hO hg ho (Nat.le_of_eq (fillB_length x))
 rwa [fillB_length] at this
theorem wr_new_nil (w : World) (gb T : Nat) (ps : Ps) : Calls Try.prog 32 #[.pointer none, .pointer (some ⟨gb, 0, none⟩), .pointer (some ⟨T, 0, none⟩), .agg #[.int .i64 ps.s, .int .i64 ps.o, .int .i64 ps.l, .int .i64 ps.p, .int .i64 ps.m]] w fun en w' => en = .returned (.pointer none) ∧ Only [] w w' := by
 go_enter Try.func32, Try.ntmps32
 go_wp2
 go_ret
 exact ⟨rfl, (Only.refl _ _).alloc _⟩
theorem waiting_nil (w : World) : Calls Try.prog 11 #[.pointer none] w fun en w' => en = .returned (.int .i64 0) ∧ w = w' := by
 go_enter Try.func11, Try.ntmps11
 go_wp2
 go_ret
 exact ⟨rfl, rfl⟩
theorem zi_new_none (h : ZI w0 w k z L G F) (ps : Ps) (hp : posMay 8 24 ps.s ps.o ps.l ps.p ps.m = false) : Calls Try.prog 32 #[.pointer (some ⟨k.p.D, 0, none⟩), .pointer (some ⟨k.gb, 0, none⟩), .pointer (some ⟨k.q.T, 0, none⟩), .agg #[.int .i64 ps.s, .int .i64 ps.o, .int .i64 ps.l, .int .i64 ps.p, .int .i64 ps.m]] w fun en w' => en = .returned (.pointer none) ∧ ZI w0 w' k z L G F := by
 obtain ⟨hq, A, c, B, m, sl, h⟩ := h
 have h1 := h.permL (L' := k.q.L z.t ((k.W, WB k.p.D k.gb k.q.T z.p (.slice A z.its.length c) (.slice B z.bl.length m)) :: (k.Z, k.box) :: L)) (perm_any (fun c => by simp only [TD.L, List.map_cons, List.sum_cons]; omega))
 refine (wr_new_any w0 w k.p k.r _ _ k.gb k.q z.t ps c8 _ _ _ h1 (by exact List.mem_cons_of_mem _ List.mem_cons_self) c8ok).mono ?_
 rintro en w1 hs
 rw [show posMay c8.s c8.l ps.s ps.o ps.l ps.p ps.m = false from hp] at hs
 obtain ⟨rfl, h2⟩ := hs
 exact ⟨rfl, hq, A, c, B, m, sl, h2.permL (perm_any (fun c => by simp only [TD.L, List.map_cons, List.sum_cons]; omega))⟩
theorem zi_add (h : ZI w0 w k z L G F) (hb : Bnd z) (ik ib ic iv : Int) {Ab : Option Addr} {n cb : Nat} {b : List UInt8} (sp : Bool) (hby : (fun W => Bys W Ab n cb b) ∈ F) (hn : n ≤ 100000) :
  Calls Try.prog 12 #[.pointer (some ⟨k.W, 0, none⟩), .agg #[.int .i64 ik, .int .i64 ib, .int .i64 ic, .int .i64 iv], .slice Ab n cb, .bool sp] w fun en w' => en = .returned (.tuple #[.int .i64 (z.add c8 ⟨ik, ib, ic, iv⟩ b sp).2.1, .int .i64 (z.add c8 ⟨ik, ib, ic, iv⟩ b sp).2.2]) ∧ ZI w0 w' k (z.add c8 ⟨ik, ib, ic, iv⟩ b sp).1 L G F := by
 obtain ⟨hq, h⟩ := h
 have hl := hb.l
 have hi := hb.its
 have hbl := hb.bl
 have hh := hb.held
 refine (wr_add_any w0 w k.p k.r _ k.W k.gb k.q z ik ib ic iv Ab n cb b sp c8 _ _ _ h (by exact List.mem_cons_self) (List.mem_cons_of_mem _ hby) c8ok (by rw [hq]; exact hb.ok) (by omega) hb.s (by have := hb.o; omega) (by omega) (by omega) (by omega) (by omega) hn).mono ?_
 rintro en w1 ⟨he, h1⟩
 exact ⟨he, hq, h1⟩
theorem zi_emit (h : ZI w0 w k z L G F) (hb : Bnd z) :
  Calls Try.prog 15 #[.pointer (some ⟨k.W, 0, none⟩)] w fun en w' => en = .returned (.int .i64 (z.emit c8).2) ∧ ZI w0 w' k (z.emit c8).1 L G F := by
 obtain ⟨hq, h⟩ := h
 have hl := hb.l
 have hh := hb.held
 refine (wr_emit_any w0 w k.p k.r _ k.W k.gb k.q z c8 _ _ _ h (by exact List.mem_cons_self) c8ok (by rw [hq]; exact hb.ok) (by omega) hb.s (by have := hb.o; omega) (by omega) (by omega)).mono ?_
 rintro en w1 ⟨he, h1⟩
 exact ⟨he, hq, h1⟩
theorem zi_read (h : ZI w0 w k z L G F) (hb : Bnd z) (a : Int) :
  Calls Try.prog 20 #[.pointer (some ⟨k.W, 0, none⟩), .int .i64 a] w (RdSays w (z.rd c8 a).1 (z.rd c8 a).2) := by
 obtain ⟨hq, h⟩ := h
 exact wr_read_any w0 w k.p k.r _ k.W k.gb k.q z a c8 _ _ _ h (by exact List.mem_cons_self) c8ok (by have := hb.o; omega) (by have := hb.bl; omega) hb.f64
theorem zi_pos (h : ZI w0 w k z L G F) :
  Calls Try.prog 10 #[.pointer (some ⟨k.W, 0, none⟩)] w fun e w' => e = .returned (.agg #[.int .i64 z.p.s, .int .i64 z.p.o, .int .i64 z.p.l, .int .i64 z.p.p, .int .i64 z.p.m]) ∧ Only [] w w' := by
 obtain ⟨hq, A, c, B, m, sl, h⟩ := h
 exact wr_pos_any w k.W k.p.D k.gb k.q.T z.p _ _ (h.boxi 0 rfl)
theorem zi_waiting (h : ZI w0 w k z L G F) :
  Calls Try.prog 11 #[.pointer (some ⟨k.W, 0, none⟩)] w fun e w' => e = .returned (.int .i64 (z.its.length : Int)) ∧ w = w' := by
 obtain ⟨hq, A, c, B, m, sl, h⟩ := h
 exact wr_waiting_any w k.W k.p.D k.gb k.q.T z.p A _ c _ (h.boxi 0 rfl)
theorem zi_held (h : ZI w0 w k z L G F) : Calls Try.prog 41 #[.pointer (some ⟨k.p.D, 0, none⟩)] w fun en w' => en = .returned (.int .i64 (z.d.held.length : Nat)) ∧ w = w' := by
 obtain ⟨_, _, _, h⟩ := h.duo
 exact duo_held h
theorem zi_state (h : ZI w0 w k z L G F) (hb : Bnd z) (s : Int) : Calls Try.prog 19 #[.pointer (some ⟨k.q.T, 0, none⟩), .int .i64 s] w fun e w' => e = .returned (.int .i64 (z.t.state s)) ∧ w = w' := by
 have hq := h.1
 obtain ⟨_, _, _, h⟩ := h.duo
 exact us_state_any w k.q z.t s (h.boxi 1 rfl) (h.boxi 2 rfl) (by rw [hq]; exact hb.ok) (by omega)
theorem zi_add_eq (h : ZI w0 w k z L G F) (hb : Bnd z) {ik ib ic iv : Int} {Ab : Option Addr} {n cb : Nat} {b : List UInt8} {sp : Bool} {y : Wr} {a e : Int} (he : z.add c8 ⟨ik, ib, ic, iv⟩ b sp = (y, a, e)) (hby : (fun W => Bys W Ab n cb b) ∈ F) (hn : n ≤ 100000) :
  Calls Try.prog 12 #[.pointer (some ⟨k.W, 0, none⟩), .agg #[.int .i64 ik, .int .i64 ib, .int .i64 ic, .int .i64 iv], .slice Ab n cb, .bool sp] w fun en w' => en = .returned (.tuple #[.int .i64 a, .int .i64 e]) ∧ ZI w0 w' k y L G F := by
 refine (zi_add h hb ik ib ic iv sp hby hn).mono ?_
 rw [he]
 exact fun _ _ h => h
theorem zi_emit_eq (h : ZI w0 w k z L G F) (hb : Bnd z) {y : Wr} (he : z.emit c8 = (y, 0)) :
  Calls Try.prog 15 #[.pointer (some ⟨k.W, 0, none⟩)] w fun en w' => en = .returned (.int .i64 0) ∧ ZI w0 w' k y L G F := by
 refine (zi_emit h hb).mono ?_
 rw [he]
 exact fun _ _ h => h
theorem zi_read_eq (h : ZI w0 w k z L G F) (hb : Bnd z) {a e : Int} {b : List UInt8} (he : z.rd c8 a = (b, e)) :
  Calls Try.prog 20 #[.pointer (some ⟨k.W, 0, none⟩), .int .i64 a] w fun en w' => ∃ A n c, en = .returned (.tuple #[.slice A n c, .int .i64 e]) ∧ ZI w0 w' k z L G ((fun W => Bys W A n c b) :: F) := by
 refine (zi_read h hb a).mono ?_
 rw [he]
 rintro en w1 ⟨A, n, c, rfl, hf, hO⟩
 exact ⟨A, n, c, rfl, h.addFc hO hf⟩
theorem small15_any (w : World) : Calls Try.prog 6 #[] w fun e w' => e = .returned (.agg #[.int .i64 8, .int .i64 8, .int .i64 24]) ∧ Only [] w w' := by
 have hres : Try.f6.results = #[.cell 0 27] := by kernel_rfl
 have HRES := Lib.hid hres
 clear hres
 go_enter Try.func6, Try.ntmps6
 go_wp2
 refine bodyPost_ret (v := .agg #[.int .i64 8, .int .i64 8, .int .i64 24]) ?_ rfl ⟨rfl, ?_⟩
 ·simp only [results, HRES.out]
  go_simp
 ·exact (Only.refl _ _).alloc _
/-- law15.made on small -/
theorem made8_any' (w0 w : World) (ps : Ps) (A : Option Addr) (m c : Nat) (busy : List Int) (fr : Fr3) (h : Wc w0 w fr.L fr.G fr.F) (hb : (fun W => Ins W A m c busy) ∈ fr.F) (hm : m ≤ 1000) (hwf : (Lit.int .i64 ps.s).wf = true) (hbw : ∀ x ∈ busy, (Lit.int .i64 x).wf = true) (hp : posMay 8 24 ps.s ps.o ps.l ps.p ps.m = true) :
  Calls Try.prog 5 #[.agg #[.int .i64 8, .int .i64 8, .int .i64 24], .agg #[.int .i64 ps.s, .int .i64 ps.o, .int .i64 ps.l, .int .i64 ps.p, .int .i64 ps.m], .slice A m c] w fun en w' => ∃ (k : Zp) (L' : List (Nat × List Value)), en = .returned (.tuple #[.pointer (some ⟨k.Z, 0, none⟩), .bool true]) ∧ (∀ x ∈ fr.L, x ∈ L') ∧ ZI w0 w' k ⟨Dk.new 202, tbMade 8 c8 ps.s busy, ps, [], []⟩ L' fr.G fr.F := by
 refine (made_any w0 w c8 ps A m c busy fr 8 h c8ok rfl hb hm hwf hbw).mono ?_
 rintro en w1 ⟨p, r, gb, q, u, Z, rfl, hq, hu, hp1, hr1, hi⟩
 rw [show posMay c8.s c8.l ps.s ps.o ps.l ps.p ps.m = true from hp] at hi
 obtain ⟨W, X, hi⟩ := hi
 exact ⟨⟨p, r, W, gb, q, u, Z, X⟩, _, rfl, fun x hx => by unfold RT.L; simp [hx], hq, hi⟩
end
end Go.Proofs.Ytgcfdjcpcclcjaa
namespace Go.Proofs.Ytgcfdjcpcclcjaa
open Go Go.RowKit Go.Kn
theorem aw_bnd (i : Nat) (h : i ≤ 6) : Bnd (awk i) := by
 obtain ⟨l1, l2⟩ := aw_len i
 have hw := aw_hw i h
 exact { ok := tbMade_ok 8 c8 0 [], s := by show (0 : Int) ≤ 0 ∧ (0 : Int) ≤ 7; decide, o := by show (0 : Int) ≤ 0 ∧ (0 : Int) ≤ 23; decide, l := by show (1 : Int) ≤ 1 ∧ (1 : Int) ≤ 100000; decide, held := by show 0 ≤ 100000; decide, its := by omega, bl := by omega, f64 := full_all hw.f64 }
theorem field_pos15 (s o l p m : Int) (w : World) : (Instr.field 30 (.agg #[.int .i64 s, .int .i64 o, .int .i64 l, .int .i64 p, .int .i64 m]) 1).run Try.prog w = .ok (.int .i64 o) w := by kernel_rfl
set_option maxRecDepth 100000 in
set_option maxHeartbeats 16000000 in
theorem awake15_any (w : World) : Calls Try.prog 14 #[] w fun e w' => e = .returned (.bool true) ∧ Only [] w w' := by
 obtain ⟨y6, hy6, hyh, hyo, hyi⟩ := aw_mark
 have HY6 := Lib.hid hy6
 have HYH := Lib.hid hyh
 have HYO := Lib.hid hyo
 clear hy6 hyh hyo
 have HYB : Hid (Bnd (awk 6)) := Lib.hid (aw_bnd 6 (by decide))
 have H1 := Lib.hid (((Wc.start w).old (f := fun W => Ins W none 0 0 []) (fun W _ => Row1.nil W)).old (f := fun W => Bys W none 0 0 []) (fun W _ => Row1.nil W))
 go_enter Try.func14, Try.ntmps14
 go_wp2_with fail
 refine (small15_any _).mono ?_
 rintro en w1 ⟨rfl, hO⟩
 have H2 := Lib.hid (H1.out.keep0 hO)
 clear hO H1
 go_wp2_with fail
 refine (made8_any' w _ ⟨0, 0, 1, 0, 2⟩ none 0 0 [] ⟨[], [], [fun W => Bys W none 0 0 [], fun W => Ins W none 0 0 []]⟩ H2.out (by simp) (by decide) rfl (by simp) rfl).mono ?_
 rintro en w2 ⟨k, L', rfl, _, hd⟩
 have HX : Hid (ZI w w2 k (awk 0) L' [] [fun W => Bys W none 0 0 [], fun W => Ins W none 0 0 []]) := Lib.hid hd
 clear hd H2
 go_wp2_with fail
 have HY := Lib.hid HX.out.drew
 clear HX
 refine wp_region_held_drew (S := (fun w' => Kn.Own w' k.Z k.box)) (by kernel_rfl) HY.out.zbox (fun hSw0 => ?_)
 generalize w2.drew = wz at *
 refine Kn.takeS 0 ⟨some 22, _, _, _, _, _⟩ ?_
 refine Kn.takeS 1 ⟨some 23, _, _, _, _, _⟩ ?_
 refine Kn.takeS 2 ⟨some 24, _, _, _, _, _⟩ ?_
 refine Kn.takeS 3 ⟨some 25, _, _, _, _, _⟩ ?_
 refine Kn.takeS 4 ⟨some 26, _, _, _, _, _⟩ ?_
 refine Kn.takeS 5 ⟨some 27, _, _, _, _, _⟩ ?_
 refine Kn.takeS 6 ⟨some 28, _, _, _, _, _⟩ (v := (.pointer (some ⟨k.W, 0, none⟩))) (hy := fun w hSw => by
  have q0 := hSw.cellv 8
  go_simp) ?_
 refine Kn.takeS 7 ⟨some 29, _, _, _, _, _⟩ ?_
 refine Kn.takeS 8 ⟨some 30, _, _, _, _, _⟩ ?_
 refine Kn.takeS 9 ⟨some 31, _, _, _, _, _⟩ ?_
 refine Kn.takeS 10 ⟨some 32, _, _, _, _, _⟩ ?_
 refine Kn.takeS 11 ⟨some 33, _, _, _, _, _⟩ ?_
 refine Kn.takeS 12 ⟨some 34, _, _, _, _, _⟩ ?_
 refine Kn.takeS 13 ⟨some 35, _, _, _, _, _⟩ (v := (.pointer (some ⟨k.gb, 0, none⟩))) (hy := fun w hSw => by
  have q0 := hSw.cellv 2
  go_simp) ?_
 refine Kn.takeS 14 ⟨some 36, _, _, _, _, _⟩ ?_
 refine Kn.takeS 15 ⟨some 37, _, _, _, _, _⟩ ?_
 refine Kn.takeS 16 ⟨some 38, _, _, _, _, _⟩ ?_
 refine Kn.takeS 17 ⟨some 39, _, _, _, _, _⟩ (v := (.pointer (some ⟨k.q.T, 0, none⟩))) (hy := fun w hSw => by
  have q0 := hSw.cellv 6
  go_simp) ?_
 refine Kn.takeS 18 ⟨some 40, _, _, _, _, _⟩ ?_
 refine Kn.takeR 19 ⟨some 41, _, _, _, _, _⟩ fun K hK => ?_
 go_simp
 refine (wr_new_nil _ k.gb k.q.T ⟨0, 0, 1, 0, 2⟩).mono ?_
 rintro en wn ⟨rfl, hO⟩
 have HYn := Lib.hid (HY.out.keep0 hO)
 clear hO
 clear HY
 refine hK.out _ _ HYn.out.zbox (fun hSn => ?_)
 clear hK K hSw0
 have hSw0 := hSn
 clear hSn
 refine Kn.takeS 20 ⟨some 42, _, _, _, _, _⟩ ?_
 refine Kn.takeS 21 ⟨some 43, _, _, _, _, _⟩ ?_
 refine Kn.takeS 22 ⟨some 44, _, _, _, _, _⟩ ?_
 refine Kn.takeS 23 ⟨some 45, _, _, _, _, _⟩ ?_
 refine Kn.takeS 24 ⟨some 46, _, _, _, _, _⟩ ?_
 refine Kn.takeS 25 ⟨some 47, _, _, _, _, _⟩ ?_
 refine Kn.takeS 26 ⟨some 48, _, _, _, _, _⟩ (v := (.pointer (some ⟨k.p.D, 0, none⟩))) (hy := fun w hSw => by
  have q0 := hSw.cellv 0
  go_simp) ?_
 refine Kn.takeS 27 ⟨some 49, _, _, _, _, _⟩ ?_
 refine Kn.takeS 28 ⟨some 50, _, _, _, _, _⟩ ?_
 refine Kn.takeS 29 ⟨some 51, _, _, _, _, _⟩ ?_
 refine Kn.takeS 30 ⟨some 52, _, _, _, _, _⟩ (v := (.pointer (some ⟨k.gb, 0, none⟩))) (hy := fun w hSw => by
  have q0 := hSw.cellv 2
  go_simp) ?_
 refine Kn.takeS 31 ⟨some 53, _, _, _, _, _⟩ ?_
 refine Kn.takeS 32 ⟨some 54, _, _, _, _, _⟩ ?_
 refine Kn.takeS 33 ⟨some 55, _, _, _, _, _⟩ ?_
 refine Kn.takeS 34 ⟨some 56, _, _, _, _, _⟩ (v := (.pointer (some ⟨k.q.T, 0, none⟩))) (hy := fun w hSw => by
  have q0 := hSw.cellv 6
  go_simp) ?_
 refine Kn.takeS 35 ⟨some 57, _, _, _, _, _⟩ ?_
 refine Kn.takeR 36 ⟨some 58, _, _, _, _, _⟩ fun K hK => ?_
 go_simp
 refine (zi_new_none HYn.out ⟨0, 0, 0, 0, 0⟩ rfl).mono ?_
 rintro en wm ⟨rfl, hd⟩
 have HYnn := Lib.hid hd
 clear hd
 clear HYn
 refine hK.out _ _ HYnn.out.zbox (fun hSn => ?_)
 clear hK K hSw0
 have hSw0 := hSn
 clear hSn
 refine Kn.takeS 37 ⟨some 59, _, _, _, _, _⟩ ?_
 refine Kn.takeS 38 ⟨some 60, _, _, _, _, _⟩ ?_
 refine wpAnyH_done (by kernel_rfl) ?_ _
 clear hSw0
 go_wp2_with fail
 go_loopg [3, 4] 6 (fun rr t3 t4 wr => ∃ (j : Nat) (a : Int), j + rr = 6 ∧ t4 = .int .i64 (j : Int) ∧ t3 = .int .i64 a ∧ (j = 6 → a = 17) ∧ ZI w wr k (awk j) L' [] [fun W => Bys W none 0 0 [], fun W => Ins W none 0 0 []])
 case atStart => exact ⟨0, 0, by omega, rfl, rfl, by omega, HYnn.out⟩
 obtain ⟨j, a, hj, rfl, rfl, ha, hd⟩ := hrel
 have HR := Lib.hid hd
 have HAA := Lib.hid ha
 clear hd ha HYnn
 by_cases hlt : j < 6
 ·have hlt2 : (j : Int) < 6 := by omega
  have HA := Lib.hid (aw_add j hlt)
  have HB := Lib.hid (aw_bnd j (by omega))
  have HJW : Hid ((Lit.int .i64 (j : Int)).wf = true) := Lib.hid (by simp [Lit.wf, IntKind.min, IntKind.max, IntKind.signed, IntKind.bits]; omega)
  go_wp2_with fail
  have HY := Lib.hid HR.out.drew
  clear HR
  refine wp_region_held_drew (S := (fun w' => Kn.Own w' k.Z k.box)) (by kernel_rfl) HY.out.zbox (fun hSw0 => ?_)
  generalize wr.drew = wz at *
  refine Kn.takeS 0 ⟨some 66, _, _, _, _, _⟩ ?_
  refine Kn.takeS 1 ⟨some 67, _, _, _, _, _⟩ ?_
  refine Kn.takeS 2 ⟨some 68, _, _, _, _, _⟩ ?_
  refine Kn.takeS 3 ⟨some 69, _, _, _, _, _⟩ (v := (.pointer (some ⟨k.W, 0, none⟩))) (hy := fun w hSw => by
   have q0 := hSw.cellv 8
   go_simp) ?_
  refine Kn.takeS 4 ⟨some 70, _, _, _, _, _⟩ ?_
  refine Kn.takeS 5 ⟨some 71, _, _, _, _, _⟩ ?_
  refine Kn.takeS 6 ⟨some 72, _, _, _, _, _⟩ ?_
  refine Kn.takeR 7 ⟨some 73, _, _, _, _, _⟩ fun K hK => ?_
  go_simp
  refine (fill_any (j : Int) _ HJW.out).mono ?_
  rintro en wf ⟨g, rfl, hg, hown, hO⟩
  have HYf := Lib.hid (HY.out.addFill hO hg hown)
  clear hg hown hO
  clear HY
  refine hK.out _ _ HYf.out.zbox (fun hSn => ?_)
  clear hK K hSw0
  have hSw0 := hSn
  clear hSn
  refine Kn.takeR 8 ⟨some 74, _, _, _, _, _⟩ fun K hK => ?_
  go_simp
  refine (zi_add_eq HYf.out HB.out HA.out List.mem_cons_self (by decide)).mono ?_
  rintro en wa ⟨rfl, hd⟩
  have HYfa := Lib.hid hd.fdrop
  clear hd
  clear HYf
  refine hK.out _ _ HYfa.out.zbox (fun hSn => ?_)
  clear hK K hSw0
  have hSw0 := hSn
  clear hSn
  refine Kn.takeS 9 ⟨some 65, _, _, _, _, _⟩ ?_
  refine Kn.takeS 10 ⟨some 75, _, _, _, _, _⟩ ?_
  refine Kn.takeS 11 ⟨some 76, _, _, _, _, _⟩ ?_
  refine Kn.takeS 12 ⟨some 5, _, _, _, _, _⟩ ?_
  refine Kn.takeS 13 ⟨some 6, _, _, _, _, _⟩ ?_
  refine wpAnyH_done (by kernel_rfl) ?_ _
  clear hSw0
  go_wp2
  go_roundg (gk - 1)
  case measure => omega
  case rel => exact ⟨j + 1, 12 + (j : Int), by omega, by go_num, rfl, by omega, HYfa.out⟩
 ·obtain rfl : j = 6 := by omega
  obtain rfl : a = 17 := HAA.out rfl
  go_wp2_with fail
  have HY := Lib.hid HR.out.drew
  clear HR
  refine wp_region_held_drew (S := (fun w' => Kn.Own w' k.Z k.box)) (by kernel_rfl) HY.out.zbox (fun hSw0 => ?_)
  generalize wr.drew = wz at *
  refine Kn.takeS 0 ⟨some 80, _, _, _, _, _⟩ ?_
  refine Kn.takeS 1 ⟨some 81, _, _, _, _, _⟩ ?_
  refine Kn.takeS 2 ⟨some 82, _, _, _, _, _⟩ ?_
  refine Kn.takeS 3 ⟨some 83, _, _, _, _, _⟩ (v := (.pointer (some ⟨k.W, 0, none⟩))) (hy := fun w hSw => by
   have q0 := hSw.cellv 8
   go_simp) ?_
  refine Kn.takeS 5 ⟨some 85, _, _, _, _, _⟩ ?_
  refine Kn.takeS 6 ⟨some 86, _, _, _, _, _⟩ ?_
  refine Kn.takeS 7 ⟨some 87, _, _, _, _, _⟩ ?_
  refine Kn.takeS 8 ⟨some 88, _, _, _, _, _⟩ (v := (.pointer (some ⟨k.p.D, 0, none⟩))) (hy := fun w hSw => by
   have q0 := hSw.cellv 0
   go_simp) ?_
  refine Kn.takeR 4 ⟨some 84, _, _, _, _, _⟩ fun K hK => ?_
  go_simp
  refine (zi_waiting HY.out).mono ?_
  rintro en wn ⟨rfl, rfl⟩
  refine hK.out _ _ HY.out.zbox (fun hSn => ?_)
  clear hK K hSw0
  have hSw0 := hSn
  clear hSn
  refine Kn.takeR 9 ⟨some 89, _, _, _, _, _⟩ fun K hK => ?_
  go_simp
  refine (zi_held HY.out).mono ?_
  rintro en wn ⟨rfl, rfl⟩
  refine hK.out _ _ HY.out.zbox (fun hSn => ?_)
  clear hK K hSw0
  have hSw0 := hSn
  clear hSn
  refine Kn.takeS 10 ⟨some 7, _, _, _, _, _⟩ ?_
  refine Kn.takeS 11 ⟨some 8, _, _, _, _, _⟩ ?_
  refine wpAnyH_done (by kernel_rfl) ?_ _
  clear hSw0
  have c0 := HY.out.zbox.cellv 8
  go_wp2_with fail
  refine (zi_read_eq HY.out HYB.out aw_read).mono ?_
  rintro en w3 ⟨A, n, c, rfl, hd⟩
  have H3 := Lib.hid hd
  clear hd HY c0
  have c0 := H3.out.zbox.cellv 8
  go_wp2_with fail
  refine (zi_add_eq H3.out HYB.out aw_next (List.mem_cons_of_mem _ List.mem_cons_self) (by decide)).mono ?_
  rintro en w4 ⟨rfl, hd⟩
  have H4 := Lib.hid hd
  clear hd H3 c0
  have c0 := H4.out.zbox.cellv 8
  go_wp2_with fail
  refine (zi_add_eq H4.out HYB.out HY6.out (List.mem_cons_of_mem _ List.mem_cons_self) (by decide)).mono ?_
  rintro en w5 ⟨rfl, hd⟩
  have H5 := Lib.hid hd
  clear hd H4 c0
  go_wp2_with fail
  refine (fill_any 5 _ (by decide)).mono ?_
  rintro en w6 ⟨g, rfl, hg, hown, hO⟩
  have H6 := Lib.hid (H5.out.addFill hO hg hown)
  clear hg hown hO H5
  go_wp2_with fail
  refine (alike_bytes_any A n c (fillB 5) (some ⟨g, 0, none⟩) 64 64 (fillB 5) _ (H6.out.fact (f := (fun W => Bys W A n c (fillB 5))) (by simp)) (H6.out.fact (f := (fun W => Bys W (some ⟨g, 0, none⟩) 64 64 (fillB 5))) (by simp))).mono ?_
  rintro en w7 ⟨rfl, nk, rfl⟩
  rw [decide_eq_true (rfl : fillB 5 = fillB 5)]
  have H7 := Lib.hid (H6.out.keep0 ((Only.refl _ _).drewN nk))
  clear H6
  have c0 := H7.out.zbox.cellv 2
  go_wp2_with fail
  refine (geom_seg_any k.gb c8 0 _ H7.out.geo c8ok).mono ?_
  rintro en w8 ⟨rfl, hO⟩
  have H8 := Lib.hid (H7.out.keep0 hO)
  clear hO H7 c0
  have hat : c8.at_ 0 = 10 := rfl
  rw [hat]
  have c0 := H8.out.zbox.cellv 0
  have c8 := H8.out.zbox.cellv 8
  go_wp2_with fail
  refine (zi_held H8.out).mono ?_
  rintro en w9 ⟨rfl, rfl⟩
  rw [HYH.out]
  go_wp2_with fail
  refine (zi_pos H8.out).mono ?_
  rw [HYO.out]
  rintro en w9 ⟨rfl, hO⟩
  have H9 := Lib.hid (H8.out.keep0 hO)
  clear hO H8 c0 c8
  have fp := field_pos15 y6.p.s 8 y6.p.l y6.p.p y6.p.m
  go_wp2_with fail
  refine (waiting_nil _).mono ?_
  rintro en w10 ⟨rfl, rfl⟩
  go_wp2
  go_ret
  exact ⟨rfl, H9.out.only⟩
end Go.Proofs.Ytgcfdjcpcclcjaa
namespace Go.Proofs.Ytgcfdjcpcclcjaa
open Go Go.RowKit Go.Kn
theorem ivs_app15 (a b : List Int) : ivs (a ++ b) = ivs a ++ ivs b := by simp [ivs]
theorem ivs_one15 (l : List Int) : ∀ v ∈ ivs l, v.oneCell' = true := by
 intro v hv
 obtain ⟨x, _, rfl⟩ := List.mem_map.1 hv
 rfl
theorem ins_one15 (w : World) (x : Int) : Ins (w.alloc (.cells #[.int .i64 x] 3)) (some ⟨w.heap.size, 0, none⟩) 1 1 [x] := by
 have := Kn.Own.new w #[.int .i64 x] 3
 exact Row1.of_Own this rfl (Nat.le_refl _) (by decide)
end Go.Proofs.Ytgcfdjcpcclcjaa
namespace Go.Kn
open Go Go.RowKit
/-- law15.kinds: the item, its block -/
def kdI (l i : Int) : It := if l % 4 = 0 then ⟨2, i % 8, 1, 0⟩ else if l % 4 = 1 then ⟨3, 0, 0, i + 1⟩ else if l % 4 = 2 then ⟨5, i % 8, 0, 0⟩ else ⟨1, i % 8, 0, 0⟩
def kdB (l i : Int) : List UInt8 := if l % 4 = 0 then [] else if l % 4 = 1 then [] else fillB i
theorem kd_ok {l i : Int} (hi : 0 ≤ i ∧ i ≤ 1000) : Wr.vok (kdI l i) (kdB l i) ∧ ((kdI l i).loaded = true ∧ kdB l i = fillB i ∨ (kdI l i).loaded = false ∧ kdB l i = []) := by
 have h8 : 0 ≤ i % 8 ∧ i % 8 ≤ 7 := by omega
 unfold kdI kdB
 by_cases h0 : l % 4 = 0
 ·rw [if_pos h0, if_pos h0]
  have hm : It.may ⟨2, i % 8, 1, 0⟩ = true := (may_k 2 _ 1 0).2 (.inr (.inl ⟨.inl rfl, by omega, by omega, rfl⟩))
  have hl : It.loaded ⟨2, i % 8, 1, 0⟩ = false := by unfold It.loaded; rw [hm]; rfl
  exact ⟨⟨hm, by show (2 : Int) ≠ 7; decide, by rw [hl]; rfl⟩, .inr ⟨hl, rfl⟩⟩
 ·rw [if_neg h0, if_neg h0]
  by_cases h1 : l % 4 = 1
  ·rw [if_pos h1, if_pos h1]
   have hm : It.may ⟨3, 0, 0, i + 1⟩ = true := (may_k 3 0 0 _).2 (.inr (.inr (.inl ⟨rfl, rfl, rfl, by omega, by omega⟩)))
   have hl : It.loaded ⟨3, 0, 0, i + 1⟩ = false := by unfold It.loaded; rw [hm]; rfl
   exact ⟨⟨hm, by show (3 : Int) ≠ 7; decide, by rw [hl]; rfl⟩, .inr ⟨hl, rfl⟩⟩
  ·rw [if_neg h1, if_neg h1]
   by_cases h2 : l % 4 = 2
   ·rw [if_pos h2]
    have hm : It.may ⟨5, i % 8, 0, 0⟩ = true := (may_k 5 _ 0 0).2 (.inl ⟨.inr rfl, by omega, rfl, rfl⟩)
    have hl : It.loaded ⟨5, i % 8, 0, 0⟩ = true := by unfold It.loaded; rw [hm]; rfl
    exact ⟨⟨hm, by show (5 : Int) ≠ 7; decide, by rw [hl]; exact fillB_length i⟩, .inl ⟨hl, rfl⟩⟩
   ·rw [if_neg h2]
    have hm : It.may ⟨1, i % 8, 0, 0⟩ = true := (may_k 1 _ 0 0).2 (.inl ⟨.inl rfl, by omega, rfl, rfl⟩)
    have hl : It.loaded ⟨1, i % 8, 0, 0⟩ = true := by unfold It.loaded; rw [hm]; rfl
    exact ⟨⟨hm, by show (1 : Int) ≠ 7; decide, by rw [hl]; exact fillB_length i⟩, .inl ⟨hl, rfl⟩⟩
end Go.Kn
namespace Go.Proofs.Ytgcfdjcpcclcjaa
open Go Go.RowKit Go.Kn
def KdSays (w : World) (l i : Int) (e : Ending) (w' : World) : Prop := ∃ (A : Option Addr) (n c : Nat), e = .returned (.tuple #[.agg #[.int .i64 (kdI l i).k, .int .i64 (kdI l i).b, .int .i64 (kdI l i).c, .int .i64 (kdI l i).v], .slice A n c]) ∧ n ≤ 64 ∧ n = (kdB l i).length ∧ Fc w' (fun k => k < w.heap.size) (fun W => Bys W A n c (kdB l i)) ∧ Only [] w w'
theorem fill_fc {w w2 w3 : World} {g s : Nat} {x : Int} (hs : w.heap.size = s) (hg : s + 1 ≤ g) (ho : Kn.Own w2 g (bvs (fillB x))) (hO : Only [s] w2 w3) : Fc w3 (fun j => j < w.heap.size) (fun W => Bys W (some ⟨g, 0, none⟩) 64 64 (fillB x)) := fun W hW => by
 have h2 : Fc w2 (fun j => j < s + 1) (fun W => Bys W (some ⟨g, 0, none⟩) 64 64 (fillB x)) := Row1.fc (Row1.of_Own ho (by rw [bvs_length, fillB_length]) (Nat.le_refl _) (by decide)) (fun _ a ha => by injection ha with ha; subst ha; exact Nat.not_lt.2 hg)
 exact h2 W fun k o hk h hc => hW k o (by omega) ((hO.block k (lt_of_obj h) (by simp; omega)).trans h) hc
set_option maxRecDepth 100000 in
set_option maxHeartbeats 4000000 in
theorem kinds_any (l i : Int) (w : World) (hl : (Lit.int .i64 l).wf = true) (hi : 0 ≤ i ∧ i ≤ 1000) : Calls Try.prog 16 #[.int .i64 l, .int .i64 i] w (KdSays w l i) := by
 have hres : Try.f16.results = #[.cell 4 47, .tmp 5] := by kernel_rfl
 have HRES := Lib.hid hres
 have hiw : (Lit.int .i64 i).wf = true := by simp [Lit.wf, IntKind.min, IntKind.max, IntKind.signed, IntKind.bits]; omega
 have HIW := Lib.hid hiw
 have HLW := Lib.hid hl
 have H0 := Lib.hid ((Wc.start w).newB #[.int .i64 0, .int .i64 0, .int .i64 0, .int .i64 0] 47 (b := w.heap.size) rfl)
 have hi8 : 0 ≤ i % 8 ∧ i % 8 ≤ 7 := by omega
 obtain ⟨hi1, hi2⟩ := hi
 obtain ⟨m, hm⟩ : ∃ m, l % 4 = m := ⟨_, rfl⟩
 have HM := Lib.hid hm
 have ht : i.tmod 8 = i % 8 := Int.tmod_eq_emod_of_nonneg hi1
 clear hres hiw hl hi8
 go_enter Try.func16, Try.ntmps16
 go_wp2_with fail
 refine (round_any l 4 _ HLW.out (by decide) (by decide)).mono ?_
 rintro en w1 ⟨rfl, rfl⟩
 rw [hm]
 clear hm
 by_cases h0 : m = 0
 ·go_wp2
  refine bodyPost_ret (v := .tuple #[.agg #[.int .i64 2, .int .i64 (i % 8), .int .i64 1, .int .i64 0], .slice none 0 0]) ?_ rfl ?_
  ·simp only [results, HRES.out]
   go_simp
  ·unfold KdSays kdI kdB
   rw [if_pos (HM.out.trans h0), if_pos (HM.out.trans h0)]
   exact ⟨none, 0, 0, rfl, by decide, rfl, fun W _ => Row1.nil W, (Only.refl _ _).alloc _⟩
 ·by_cases h1 : m = 1
  ·go_wp2
   refine bodyPost_ret (v := .tuple #[.agg #[.int .i64 3, .int .i64 0, .int .i64 0, .int .i64 (i + 1)], .slice none 0 0]) ?_ rfl ?_
   ·simp only [results, HRES.out]
    go_simp
   ·unfold KdSays kdI kdB
    rw [if_neg (fun e => h0 (HM.out.symm.trans e)), if_neg (fun e => h0 (HM.out.symm.trans e)), if_pos (HM.out.trans h1), if_pos (HM.out.trans h1)]
    exact ⟨none, 0, 0, rfl, by decide, rfl, fun W _ => Row1.nil W, (Only.refl _ _).alloc _⟩
  ·by_cases h2 : m = 2
   ·go_wp2_with fail
    refine (fill_any i _ HIW.out).mono ?_
    rintro en w2 ⟨g, rfl, hg, hown, hO⟩
    have hsz : w.heap.size + 1 ≤ g := by have := hg; simpa using this
    have HGG := Lib.hid hsz
    have HOW := Lib.hid hown
    have H1 := Lib.hid (H0.out.keep0 hO)
    have b1 := H1.out.boxi 0 rfl
    have lt := b1.lt
    obtain ⟨e0, e1, e2, e3⟩ := own4 b1
    have z0 := b1.frozen 0
    have z1 := b1.frozen 1
    have z2 := b1.frozen 2
    have z3 := b1.frozen 3
    have HS := Lib.hid ((((H1.out.put 0 rfl 0 (.int .i64 5)).put 0 rfl 1 (.int .i64 (i % 8))).put 0 rfl 2 (.int .i64 0)).put 0 rfl 3 (.int .i64 0))
    clear hg hown hO b1 H0 H1 hsz
    go_wp2
    refine bodyPost_ret (v := .tuple #[.agg #[.int .i64 5, .int .i64 (i % 8), .int .i64 0, .int .i64 0], .slice (some ⟨g, 0, none⟩) 64 64]) ?_ rfl ?_
    ·have hb := HS.out.boxi 0 rfl
     obtain ⟨e0, e1, e2, e3⟩ := own4 hb
     simp only [results, HRES.out]
     go_simp
    ·unfold KdSays kdI kdB
     rw [if_neg (fun e => h0 (HM.out.symm.trans e)), if_neg (fun e => h0 (HM.out.symm.trans e)), if_neg (fun e => h1 (HM.out.symm.trans e)), if_neg (fun e => h1 (HM.out.symm.trans e)), if_pos (HM.out.trans h2)]
     exact ⟨some ⟨g, 0, none⟩, 64, 64, rfl, by decide, (fillB_length i).symm, fill_fc rfl HGG.out HOW.out ((((Only.refl [w.heap.size] _).set (.inl (List.mem_singleton.2 rfl)) _).set (.inl (List.mem_singleton.2 rfl)) _).set (.inl (List.mem_singleton.2 rfl)) _ |>.set (.inl (List.mem_singleton.2 rfl)) _), HS.out.only⟩
   ·go_wp2_with fail
    refine (fill_any i _ HIW.out).mono ?_
    rintro en w2 ⟨g, rfl, hg, hown, hO⟩
    have hsz : w.heap.size + 1 ≤ g := by have := hg; simpa using this
    have HGG := Lib.hid hsz
    have HOW := Lib.hid hown
    have H1 := Lib.hid (H0.out.keep0 hO)
    have b1 := H1.out.boxi 0 rfl
    have lt := b1.lt
    obtain ⟨e0, e1, e2, e3⟩ := own4 b1
    have z0 := b1.frozen 0
    have z1 := b1.frozen 1
    have z2 := b1.frozen 2
    have z3 := b1.frozen 3
    have HS := Lib.hid ((((H1.out.put 0 rfl 0 (.int .i64 1)).put 0 rfl 1 (.int .i64 (i % 8))).put 0 rfl 2 (.int .i64 0)).put 0 rfl 3 (.int .i64 0))
    clear hg hown hO b1 H0 H1 hsz
    go_wp2
    refine bodyPost_ret (v := .tuple #[.agg #[.int .i64 1, .int .i64 (i % 8), .int .i64 0, .int .i64 0], .slice (some ⟨g, 0, none⟩) 64 64]) ?_ rfl ?_
    ·have hb := HS.out.boxi 0 rfl
     obtain ⟨e0, e1, e2, e3⟩ := own4 hb
     simp only [results, HRES.out]
     go_simp
    ·unfold KdSays kdI kdB
     rw [if_neg (fun e => h0 (HM.out.symm.trans e)), if_neg (fun e => h0 (HM.out.symm.trans e)), if_neg (fun e => h1 (HM.out.symm.trans e)), if_neg (fun e => h1 (HM.out.symm.trans e)), if_neg (fun e => h2 (HM.out.symm.trans e))]
     exact ⟨some ⟨g, 0, none⟩, 64, 64, rfl, by decide, (fillB_length i).symm, fill_fc rfl HGG.out HOW.out ((((Only.refl [w.heap.size] _).set (.inl (List.mem_singleton.2 rfl)) _).set (.inl (List.mem_singleton.2 rfl)) _).set (.inl (List.mem_singleton.2 rfl)) _ |>.set (.inl (List.mem_singleton.2 rfl)) _), HS.out.only⟩
theorem kinds_eq {l i : Int} {w : World} {ik ib ic iv : Int} {b : List UInt8} (hl : (Lit.int .i64 l).wf = true) (hi : 0 ≤ i ∧ i ≤ 1000) (h1 : kdI l i = ⟨ik, ib, ic, iv⟩) (h2 : kdB l i = b) : Calls Try.prog 16 #[.int .i64 l, .int .i64 i] w fun e w' => ∃ (A : Option Addr) (n c : Nat), e = .returned (.tuple #[.agg #[.int .i64 ik, .int .i64 ib, .int .i64 ic, .int .i64 iv], .slice A n c]) ∧ n ≤ 64 ∧ n = b.length ∧ Fc w' (fun k => k < w.heap.size) (fun W => Bys W A n c b) ∧ Only [] w w' := by
 refine (kinds_any l i w hl hi).mono ?_
 unfold KdSays
 rw [h1, h2]
 exact fun _ _ h => h
theorem among_any (A : Option Addr) (n c : Nat) (l : List Int) (x : Int) (w : World) (h : Ins w A n c l) (hx : x ∉ l) : Calls Try.prog 18 #[.slice A n c, .int .i64 x] w fun e w' => e = .returned (.bool false) ∧ ∃ m, w' = w.drewN m := by
 have hl : l.length = n := by
  have := h.len
  rwa [ivs, List.length_map] at this
 have hnm := Nat.le_trans h.le h.cm
 unfold maxLen at hnm
 have HI := Lib.hid h
 have HX := Lib.hid hx
 have HL := Lib.hid hl
 clear h hx hl
 go_enter Try.func18, Try.ntmps18
 go_wp2_with fail
 go_loopg [5] n (fun rr t5 wr => ∃ j : Nat, j + rr = n ∧ t5 = .int .i64 (j : Int) ∧ ∃ m, wr = w.drewN m)
 case atStart => exact ⟨0, by omega, rfl, 0, rfl⟩
 obtain ⟨j, hj, rfl, m, rfl⟩ := hrel
 by_cases hlt : j < n
 ·have hlt2 : (j : Int) < (n : Int) := by omega
  have hjl : j < l.length := by rw [HL.out]; exact hlt
  have hi : Ins (w.drewN m) A n c l := HI.out.keep0 ((Only.refl _ _).drewN m)
  obtain ⟨g, o, rfl, hc⟩ := hi.at_ (by omega)
  have hcj := hc j (by rw [ivs, List.length_map]; exact hjl)
  have hcx : (w.drewN m).cell? ⟨g, o + j, none⟩ = some (.int .i64 l[j]) := by rw [hcj]; simp [ivs]
  have hne : l[j] ≠ x := fun e => HX.out (e ▸ List.getElem_mem hjl)
  clear hc hcj hi
  obtain ⟨y, hy⟩ : ∃ y, l[j] = y := ⟨_, rfl⟩
  rw [hy] at hcx hne
  clear hy
  go_wp2
  go_roundg (gk - 1)
  case measure => omega
  case rel => exact ⟨j + 1, by omega, by go_num, m, rfl⟩
 ·obtain rfl : j = n := by omega
  go_wp2
  go_ret
  exact ⟨rfl, m, rfl⟩
theorem sectors8_any (gb : Nat) (w : World) (hg : GeoAt w gb c8.b c8.s c8.l) : Calls Try.prog 47 #[.pointer (some ⟨gb, 0, none⟩)] w fun e w' => e = .returned (.int .i64 202) ∧ Only [] w w' := by
 have HG := Lib.hid hg
 clear hg
 go_enter Try.func47, Try.ntmps47
 go_wp2_with fail
 have HX : Hid (Only [] w w) := Lib.hid (Only.refl _ _)
 have HY := Lib.hid HX.out.drew
 clear HX
 refine wp_region_held_drew (S := (fun w' => GeoAt w' gb c8.b c8.s c8.l)) (by kernel_rfl) (HG.out.keep0 HY.out) (fun hSw0 => ?_)
 generalize w.drew = wz at *
 refine Kn.takeS 0 ⟨some 5, _, _, _, _, _⟩ ?_
 refine Kn.takeS 2 ⟨some 7, _, _, _, _, _⟩ ?_
 refine Kn.takeS 3 ⟨some 8, _, _, _, _, _⟩ ?_
 refine Kn.takeS 4 ⟨some 9, _, _, _, _, _⟩ ?_
 refine Kn.takeS 5 ⟨some 10, _, _, _, _, _⟩ ?_
 refine Kn.takeS 6 ⟨some 11, _, _, _, _, _⟩ (v := (.int .i64 8)) (hy := fun w hSw => by
  have q0 : w.cell? ⟨gb, 1, none⟩ = some (.int .i64 8) := hSw.c1
  go_simp) ?_
 refine Kn.takeS 7 ⟨some 12, _, _, _, _, _⟩ ?_
 refine Kn.takeS 8 ⟨some 13, _, _, _, _, _⟩ ?_
 refine Kn.takeS 9 ⟨some 14, _, _, _, _, _⟩ ?_
 refine Kn.takeS 10 ⟨some 15, _, _, _, _, _⟩ ?_
 refine Kn.takeS 11 ⟨some 16, _, _, _, _, _⟩ (v := (.int .i64 24)) (hy := fun w hSw => by
  have q0 : w.cell? ⟨gb, 2, none⟩ = some (.int .i64 24) := hSw.c2
  go_simp) ?_
 refine Kn.takeS 12 ⟨some 17, _, _, _, _, _⟩ ?_
 refine Kn.takeR 1 ⟨some 6, _, _, _, _, _⟩ fun K hK => ?_
 go_simp
 refine (geom_segs_any gb c8.b c8.s c8.l _ (HG.out.keep0 HY.out) c8ok).mono ?_
 rintro en wa ⟨rfl, hO⟩
 rw [show (2 : Int) + 2 * rln c8.s + 4 * pgs c8.b = 10 from rfl]
 have HYa := Lib.hid (HY.out.trans' hO)
 clear hO HY
 refine hK.out _ _ (HG.out.keep0 HYa.out) (fun hSn => ?_)
 clear hK K hSw0
 have hSw0 := hSn
 clear hSn
 refine Kn.takeS 13 ⟨some 18, _, _, _, _, _⟩ ?_
 refine Kn.takeS 14 ⟨some 2, _, _, _, _, _⟩ ?_
 refine wpAnyH_done (by kernel_rfl) ?_ _
 clear hSw0
 go_wp2
 go_ret
 exact ⟨rfl, HYa.out⟩
theorem where8_any (gb : Nat) (s off : Int) (w : World) (hg : GeoAt w gb c8.b c8.s c8.l) (hs : 0 ≤ s ∧ s ≤ 7) (ho : 0 ≤ off ∧ off ≤ 23) : Calls Try.prog 17 #[.pointer (some ⟨gb, 0, none⟩), .int .i64 (10 + 24 * s + off)] w fun e w' => e = .returned (.tuple #[.int .i64 s, .int .i64 off, .bool true]) ∧ Only [] w w' := by
 have HG := Lib.hid hg
 obtain ⟨k, hk⟩ : ∃ k, 24 * s + off = k := ⟨_, rfl⟩
 have hk1 : 0 ≤ k ∧ k ≤ 191 := by omega
 have hd : k.tdiv 24 = s := by
  rw [Int.tdiv_eq_ediv_of_nonneg hk1.1]
  omega
 have hm : k.tmod 24 = off := by
  rw [Int.tmod_eq_emod_of_nonneg hk1.1]
  omega
 have he : 10 + 24 * s + off = 10 + k := by omega
 rw [he]
 have HD := Lib.hid hd
 have HM := Lib.hid hm
 obtain ⟨hk1, hk2⟩ := hk1
 clear hg hd hm he hk
 go_enter Try.func17, Try.ntmps17
 go_wp2_with fail
 refine (geom_segs_any gb c8.b c8.s c8.l _ HG.out c8ok).mono ?_
 rintro en w1 ⟨rfl, hO⟩
 rw [show (2 : Int) + 2 * rln c8.s + 4 * pgs c8.b = 10 from rfl]
 have HO1 := Lib.hid hO
 clear hO
 go_wp2_with fail
 refine (sectors8_any gb _ (HG.out.keep0 HO1.out)).mono ?_
 rintro en w2 ⟨rfl, hO⟩
 have HO2 := Lib.hid (HO1.out.trans' hO)
 clear hO HO1
 go_wp2_with fail
 refine (geom_within_any (10 + k) 10 201 _).mono ?_
 rintro en w3 ⟨rfl, rfl⟩
 rw [decide_eq_true (show 10 ≤ 10 + k ∧ 10 + k ≤ 201 from by omega)]
 go_wp2_with fail
 refine (geom_segs_any gb c8.b c8.s c8.l _ (HG.out.keep0 HO2.out) c8ok).mono ?_
 rintro en w4 ⟨rfl, hO⟩
 rw [show (2 : Int) + 2 * rln c8.s + 4 * pgs c8.b = 10 from rfl]
 have HO4 := Lib.hid (HO2.out.trans' hO)
 have HG4 := Lib.hid (HG.out.keep0 HO4.out)
 clear hO HO2
 go_wp2_with fail
 have q0 : w4.cell? ⟨gb, 2, none⟩ = some (.int .i64 24) := HG4.out.c2
 have hk3 : 10 + k - 10 = k := by omega
 have hd := HD.out
 have hm := HM.out
 go_quiet (fail)
 go_wp2
 (try simp only [Exit.inBlock, Exit.then])
 refine bodyPost_ret (v := .tuple #[.int .i64 s, .int .i64 off, .bool true]) (by kernel_rfl) rfl ⟨rfl, ?_⟩
 exact HO4.out.trans' ((Only.refl _ _).drewN _)
section
variable {w0 w w' : World} {k : Zp} {z : Wr} {L : List (Nat × List Value)} {G : List Gs} {F : List (World → Prop)}
theorem ZI.alloc (h : ZI w0 w k z L G F) (o : Obj) : ZI w0 (w.alloc o) k z L G F := h.keep0 ((Only.refl _ _).alloc o)
theorem Duo.permG {p : PD} {r : RD} {d e : Dk} {G' : List Gs} (h : Duo w0 w p r d e ⟨L, G, F⟩) (hG : G.Perm G') : Duo w0 w p r d e ⟨L, G', F⟩ := by
 obtain ⟨L0, G0, F0, hw, back⟩ := h.fr
 exact back w ⟨L, G', F⟩ (hw.perm (List.Perm.refl _) (hG.append_right G0))
theorem ZI.gnew (h : ZI w0 w k z L G F) (t sz : Nat) : ZI w0 w k z L (⟨t, sz, .slice none 0 0, 0, []⟩ :: G) F := by
 obtain ⟨hq, A, c, B, m, sl, h⟩ := h
 exact ⟨hq, A, c, B, m, sl, Duo.permG (h.gnew t sz) (List.perm_middle (l₁ := [_, _])).symm⟩
theorem ZI.gi (h : ZI w0 w k z L G F) (i : Nat) {x : Gs} (hi : G[i]? = some x) : w.ownsRow w0.heap.size x.e x.sz x.v x.n x.xs := by
 obtain ⟨hq, A, c, B, m, sl, h⟩ := h
 exact h.gi (i + 2) (x := x) (by simpa using hi)
theorem ZI.gform (h : ZI w0 w k z L G F) (i : Nat) {t sz n : Nat} {v : Value} {xs : List Value} (hi : G[i]? = some ⟨t, sz, v, n, xs⟩) : ∃ A c, v = .slice A n c := by
 obtain ⟨hq, A, c, B, m, sl, h⟩ := h
 exact h.gform (i + 2) (by simpa using hi)
theorem ZI.gapp (h : ZI w0 w k z L G F) (i : Nat) {x : Gs} (hi : G[i]? = some x) {v' : Value} {n' : Nat} {ys : List Value} (ho : w'.ownsRow w0.heap.size x.e x.sz v' n' ys) (hg : w.grownBy w' x.v.ownBlock) (hat : v'.ownBlock = x.v.ownBlock ∨ v'.ownBlock = some w.heap.size) : ZI w0 w' k z L (G.set i ⟨x.e, x.sz, v', n', ys⟩) F := by
 obtain ⟨hq, A, c, B, m, sl, h⟩ := h
 exact ⟨hq, A, c, B, m, sl, h.gapp (i + 2) (x := x) (by simpa using hi) ho hg hat⟩
theorem ZI.ins (h : ZI w0 w k z L G F) (i : Nat) {t n c : Nat} {A : Option Addr} {l : List Int} (hi : G[i]? = some ⟨t, 1, .slice A n c, n, ivs l⟩) : Ins w A n c l := (Row1.of_owns (h.gi i hi)).1
theorem zi_dread (h : ZI w0 w k z L G F) (a : Int) : Calls Try.prog 22 #[.pointer (some ⟨k.p.D, 0, none⟩), .int .i64 a] w (RdSays w (z.d.read a) (z.d.err a)) := by
 obtain ⟨_, _, _, h⟩ := h.duo
 obtain ⟨c1, hF, hP, back⟩ := h.ofP
 exact dk_read_any w0 _ k.p z.d c1 a hP
end
end Go.Proofs.Ytgcfdjcpcclcjaa
namespace Go.Kn
open Go Go.RowKit
def PlS (z : Wr) (ats nums : List Int) : Prop := ats.length = nums.length ∧ ∀ (i : Nat) (a x : Int), ats[i]? = some a → nums[i]? = some x → (0 ≤ x ∧ x ≤ 1000) ∧ ∃ s off, Plc (nzs z) z a (fillB x) s off
section
variable {z y : Wr} {ats nums : List Int} {i : It} {b : List UInt8}
theorem PlS.nil (z : Wr) : PlS z [] [] := ⟨rfl, fun i a x h => by simp at h⟩
theorem PlS.rch (hz : Hw c8 z) (hl : z.p.l ≤ 2147483645) (h : PlS z ats nums) {dn : Nat} (hr : Rch dn z y) : PlS y ats nums := ⟨h.1, fun i a x h1 h2 => by
 obtain ⟨h3, s, off, h4⟩ := h.2 i a x h1 h2
 exact ⟨h3, s, off, h4.rch hz hl hr⟩⟩
theorem PlS.put (hz : Hw c8 z) (h : PlS z ats nums) : PlS (z.put i b) ats nums := ⟨h.1, fun j a x h1 h2 => by
 obtain ⟨h3, s, off, h4⟩ := h.2 j a x h1 h2
 exact ⟨h3, s, off, h4.put hz⟩⟩
theorem PlS.ne (hz : Hw c8 z) (h : PlS z ats nums) : Wr.first c8 z + (z.bl.length : Int) ∉ ats := fun hm => by
 obtain ⟨j, hj, e⟩ := List.getElem_of_mem hm
 obtain ⟨_, s, off, h4⟩ := h.2 j ats[j] (nums[j]'(by rw [← h.1]; exact hj)) (List.getElem?_eq_getElem hj) (List.getElem?_eq_getElem _)
 exact h4.ne hz e
theorem PlS.snoc {v : Int} (hz : Hw c8 (z.put i (fillB v))) (h : PlS (z.put i (fillB v)) ats nums) (hld : i.loaded = true) (hU : nzs z z.p.s) (hv : 0 ≤ v ∧ v ≤ 1000) : PlS (z.put i (fillB v)) (ats ++ [Wr.first c8 z + (z.bl.length : Int)]) (nums ++ [v]) := by
 refine ⟨by rw [List.length_append, List.length_append, h.1]; rfl, fun j a x h1 h2 => ?_⟩
 by_cases hj : j < ats.length
 ·rw [List.getElem?_append_left hj] at h1
  rw [List.getElem?_append_left (by rw [← h.1]; exact hj)] at h2
  exact h.2 j a x h1 h2
 ·have e : j = ats.length := by
   refine Classical.byContradiction fun hn => ?_
   rw [List.getElem?_eq_none (by rw [List.length_append]; simp; omega)] at h1
   cases h1
  subst e
  rw [List.getElem?_append_right (Nat.le_refl _), Nat.sub_self] at h1
  rw [List.getElem?_append_right (by rw [h.1]; exact Nat.le_refl _), h.1, Nat.sub_self] at h2
  obtain rfl := Option.some.inj h1
  obtain rfl := Option.some.inj h2
  exact ⟨hv, _, _, Plc.new (U := nzs (z.put i (fillB v))) hz hld hU⟩
theorem PlS.emit (hz : Hw c8 z) (hl : z.p.l ≤ 2147483645) (h : PlS z ats nums) : ∃ y, z.emit c8 = (y, 0) ∧ PlS y ats nums ∧ y.bl = [] ∧ Hw c8 y ∧ (y.its = [] ∧ y.p.l ≤ z.p.l + 1 ∧ (∀ n, z.t.Ok n → y.t.Ok n) ∧ y.d.held.length ≤ z.d.held.length + 2 + z.bl.length ∧ 0 ≤ y.p.s ∧ y.p.s ≤ 7) := by
 by_cases hn : z.its = []
 ·refine ⟨z, hz.emit0 hn, h, ?_, hz, hn, by omega, fun _ h => h, by omega, hz.s.1, hz.s.2⟩
  have := bl_le hz
  rw [hn] at this
  exact List.length_eq_zero_iff.1 (Nat.le_zero.1 this)
 ·obtain ⟨d, e1, e2, e3, e4, e5⟩ := hz.emit (by omega) hn
  have hr := rcSum_lt2 (hz.recMay (by omega) hn)
  have hob := hz.o.1
  have hll := hz.l
  have hfit := hz.fit.resolve_left hn
  refine ⟨_, e1, h.rch hz hl (.inr (.inl ⟨rfl, hn, e1⟩)), rfl, { cok := hz.cok, rdy := e2, len := e3, s := hz.s, o := ⟨by show 0 ≤ behind _ _; unfold behind; omega, hfit⟩, l := by show 1 ≤ z.p.l + 1; omega, pp := ⟨by show (0 : Int) ≤ (rcSum _ : Nat); omega, by show ((rcSum _ : Nat) : Int) ≤ _; omega⟩, m := hz.m, may := rfl, k7 := by simp, ld := rfl, f64 := rfl, six := by simp, fit := .inl rfl }, rfl, Int.le_refl _, fun _ h => h.touch _ _, ?_, hz.s.1, hz.s.2⟩
  show d.held.length ≤ _
  rw [e4]
  split <;> omega
/-- where nothing waits all of it is on the disk -/
theorem PlS.fin (hz : Hw c8 z) (hb : z.bl = []) (h : PlS z ats nums) {j : Nat} {a x : Int} (h1 : ats[j]? = some a) (h2 : nums[j]? = some x) : (0 ≤ x ∧ x ≤ 1000) ∧ z.rd c8 a = (fillB x, 0) ∧ z.d.read a = fillB x ∧ z.d.err a = 0 := by
 obtain ⟨h3, s, off, h4⟩ := h.2 j a x h1 h2
 refine ⟨h3, h4.rd, h4.lies hz fun e => ?_⟩
 rcases h4.cur e with c | c
 ·exact c
 ·rw [hb] at c
  simp only [List.length_nil] at c
  omega
end
end Go.Kn
namespace Go.Proofs.Ytgcfdjcpcclcjaa
open Go Go.RowKit Go.Kn
set_option maxRecDepth 100000 in
set_option maxHeartbeats 16000000 in
theorem places15_any (A : Option Addr) (n c : Nat) (l : List Int) (w : World) (hl : Ins w A n c l) (hw : ∀ x ∈ l, (Lit.int .i64 x).wf = true) : Calls Try.prog 4 #[.slice A n c] w fun e w' => e = .returned (.bool true) ∧ Only [] w w' := by
 have hln : l.length = n := by
  have := hl.len
  rwa [ivs, List.length_map] at this
 have hnm := Nat.le_trans hl.le hl.cm
 unfold maxLen at hnm
 have HLN := Lib.hid hln
 have HLW := Lib.hid hw
 have H1 := Lib.hid (((Wc.start w).old (f := fun W => Ins W none 0 0 []) (fun W _ => Row1.nil W)).old (f := (fun W => Ins W A n c l)) (Row1.fc hl (fun _ _ _ => id)))
 clear hl hw hln
 by_cases hn : (n : Int) > 80
 ·go_enter Try.func4, Try.ntmps4
  go_wp2_with fail
  refine (awake15_any _).mono ?_
  rintro en w9 ⟨rfl, hO⟩
  have HO := Lib.hid hO
  clear hO
  go_wp2
  go_ret
  exact ⟨rfl, HO.out⟩
 have hn80 : n ≤ 80 := by omega
 go_enter Try.func4, Try.ntmps4
 go_wp2_with fail
 refine (small15_any _).mono ?_
 rintro en w1 ⟨rfl, hO⟩
 have H2 := Lib.hid (H1.out.keep0 hO)
 clear hO H1
 go_wp2_with fail
 refine (made8_any' w _ ⟨1, 0, 1, 0, 1⟩ none 0 0 [] ⟨[], [], [(fun W => Ins W A n c l), (fun W => Ins W none 0 0 [])]⟩ H2.out (List.mem_cons_of_mem _ List.mem_cons_self) (by decide) rfl (by simp) rfl).mono ?_
 rintro en w2 ⟨k, L', rfl, _, hd⟩
 obtain ⟨z0, hz0⟩ : ∃ z, (⟨Dk.new 202, tbMade 8 c8 1 [], ⟨1, 0, 1, 0, 1⟩, [], []⟩ : Wr) = z := ⟨_, rfl⟩
 have hs0 : PI 0 1 z0 := by
  rw [← hz0]
  exact { h := Hw.start c8ok _ rfl, ok := tbMade_ok 8 c8 1 [], op := by decide, f0 := by decide, f2 := by decide, pt := by decide, l := by decide, held := by decide }
 have hd : ZI w w2 k z0 L' [] [(fun W => Ins W A n c l), (fun W => Ins W none 0 0 [])] := by
  rw [← hz0]
  exact hd
 have HM := Lib.hid hd
 have HS0 := Lib.hid hs0
 have HM1 := Lib.hid ((HM.out.gnew 3 1).gnew 3 1)
 clear hd hs0 hz0 H2
 have cw := HM.out.zbox.cellv 8
 clear HM
 go_wp2_with fail
 go_loopg [5, 6, 7] n (fun rr t5 t6 t7 wr => ∃ (j m tn : Nat) (z : Wr) (ats nums : List Int) (A5 A6 : Option Addr) (c5 c6 : Nat), j + rr = n ∧ t5 = .slice A5 m c5 ∧ t6 = .slice A6 m c6 ∧ t7 = .int .i64 (j : Int) ∧ m ≤ j ∧ ats.length = m ∧ PI tn (1 + 2 * (j : Int)) z ∧ PlS z ats nums ∧ ZI w wr k z L' [⟨3, 1, .slice A5 m c5, m, ivs ats⟩, ⟨3, 1, .slice A6 m c6, m, ivs nums⟩] [(fun W => Ins W A n c l), (fun W => Ins W none 0 0 [])])
 case atStart => exact ⟨0, 0, 0, z0, [], [], none, none, 0, 0, by omega, rfl, rfl, rfl, by omega, rfl, HS0.out, PlS.nil _, HM1.out⟩
 clear HM1 HS0 cw
 obtain ⟨j, m, tn, z, ats, nums, A5, A6, c5, c6, hj, rfl, rfl, rfl, hmj, ham, hpi, hpl, hd⟩ := hrel
 have HR := Lib.hid hd
 have HPI := Lib.hid hpi
 have HPL := Lib.hid hpl
 have HAM := Lib.hid ham
 clear hd hpi hpl ham
 by_cases hlt : j < n
 ·have hlt2 : (j : Int) < (n : Int) := by omega
  have hjl : j < l.length := by rw [HLN.out]; exact hlt
  have HMX : Hid (m + 1 ≤ maxLen) := Lib.hid (by unfold maxLen; omega)
  obtain ⟨x, hx⟩ : ∃ x, l[j] = x := ⟨_, rfl⟩
  have HXW := Lib.hid (HLW.out x (by rw [← hx]; exact List.getElem_mem hjl))
  obtain ⟨g, o, rfl, hc0⟩ := (HR.out.fact (f := (fun W => Ins W A n c l)) List.mem_cons_self).at_ (by omega)
  have cy := hc0 j (by rw [ivs, List.length_map]; exact hjl)
  have cx : wr.cell? ⟨g, o + j, none⟩ = some (.int .i64 x) := by rw [cy, ← hx]; simp [ivs]
  clear hx hc0 cy
  have HB := Lib.hid (PI.bnd HPI.out (by omega))
  obtain ⟨hvok, hkd⟩ := kd_ok (l := x) (i := (j : Int)) (by omega)
  obtain ⟨⟨ik, ib, ic, iv⟩, hit⟩ : ∃ it, kdI x (j : Int) = it := ⟨_, rfl⟩
  obtain ⟨b, hbb⟩ : ∃ b, kdB x (j : Int) = b := ⟨_, rfl⟩
  rw [hit, hbb] at hvok hkd
  have HIT := Lib.hid hit
  have HBB := Lib.hid hbb
  clear hit hbb
  obtain ⟨dn, y, hA, hpi2, hyw, hyo, hrch⟩ := HPI.out.add (sp := true) hvok (.inl ⟨rfl, by omega⟩)
  have hlz : z.p.l ≤ 2147483645 := by have := HB.out.l; omega
  have hps := (HPL.out.rch HPI.out.h hlz hrch).put (i := (⟨ik, ib, ic, iv⟩ : It)) (b := b) hyw
  have hne := (HPL.out.rch HPI.out.h hlz hrch).ne hyw
  have HPI2 := Lib.hid hpi2
  have HPS := Lib.hid hps
  have HNE := Lib.hid hne
  have HYW := Lib.hid hyw
  have HVK := Lib.hid hvok
  clear hpi2 hps hne hyw hyo hrch hvok hlz HPI HPL
  go_wp2_with fail
  refine (kinds_eq HXW.out (by omega) HIT.out HBB.out).mono ?_
  rintro en w3 ⟨Ab, nb, cb, rfl, hn64, hnb, hfc, hO⟩
  have HN64 := Lib.hid hn64
  have HNB := Lib.hid hnb
  have H2 := Lib.hid ((HR.out.addFc hO hfc).newB #[.int .i64 ik, .int .i64 ib, .int .i64 ic, .int .i64 iv] 47 rfl)
  clear hO hfc HR cx hn64 hnb
  go_upto_region 11 with (fail)
  generalize hvz : w3.alloc (.cells #[.int .i64 ik, .int .i64 ib, .int .i64 ic, .int .i64 iv] 47) = w4 at *
  generalize w3.heap.size = f8 at *
  clear hvz
  rcases hkd with ⟨hld, hbf⟩ | ⟨hld, hbf⟩
  ·have hop := HPI2.out.op
   have hat : y.at_ c8 (⟨ik, ib, ic, iv⟩ : It) = Wr.first c8 y + (y.bl.length : Int) := if_pos hld
   have hPn : Plc (nzs (y.put (⟨ik, ib, ic, iv⟩ : It) (fillB (j : Int)))) (y.put (⟨ik, ib, ic, iv⟩ : It) (fillB (j : Int))) (Wr.first c8 y + (y.bl.length : Int)) (fillB (j : Int)) y.p.s (max y.p.o 1 + 1 + (y.bl.length : Int)) := by
    have h0 := HPI2.out.h
    rw [hbf] at h0
    exact Plc.new h0 hld (by show y.t.sts.getD y.p.s.toNat 0 ≠ 0; rw [show y.t.sts.getD y.p.s.toNat 0 = 1 from hop]; decide)
   obtain ⟨s, hs⟩ : ∃ s, y.p.s = s := ⟨_, rfl⟩
   obtain ⟨off, hoff⟩ : ∃ o, max y.p.o 1 + 1 + (y.bl.length : Int) = o := ⟨_, rfl⟩
   rw [hs, hoff] at hPn
   have hk := hPn.k8
   rw [hat, hbf, hk] at hA
   rw [hk] at hPn HNE
   have HA := Lib.hid hA
   have HPN := Lib.hid hPn
   have hsb := hPn.hs
   have hob := hPn.ho
   have HSN : Hid (PlS (y.put (⟨ik, ib, ic, iv⟩ : It) (fillB (j : Int))) (ats ++ [10 + 24 * s + off]) (nums ++ [(j : Int)])) := Lib.hid (by
    have h0 := HPI2.out.h
    have h1 := HPS.out
    rw [hbf] at h0 h1
    rw [← hk]
    exact h1.snoc h0 hld (by show y.t.sts.getD y.p.s.toNat 0 ≠ 0; rw [show y.t.sts.getD y.p.s.toNat 0 = 1 from hop]; decide) ⟨by omega, by omega⟩)
   have HST : Hid ((y.put (⟨ik, ib, ic, iv⟩ : It) (fillB (j : Int))).t.state s = 1) := Lib.hid (by
    have h1 := HPI2.out.len
    have h2 : y.t.sts.length = 8 := h1
    rw [state_sts (by show 0 ≤ s ∧ s < (y.t.sts.length : Int); rw [h2]; omega), ← hs]
    exact hop)
   have HPI3 : Hid (PI (tn + dn) (1 + 2 * (j : Int) + 2) (y.put (⟨ik, ib, ic, iv⟩ : It) (fillB (j : Int)))) := Lib.hid (by rw [← hbf]; exact HPI2.out)
   have HNB2 : Hid (nb = 64) := Lib.hid (by rw [HNB.out, hbf, fillB_length])
   rw [hbf] at H2
   obtain ⟨s1, s2⟩ := hsb
   obtain ⟨o1, o2⟩ := hob
   have hnb64 := HNB2.out
   subst hnb64
   obtain ⟨y3, hy3⟩ : ∃ y3, y.put (⟨ik, ib, ic, iv⟩ : It) (fillB (j : Int)) = y3 := ⟨_, rfl⟩
   rw [hy3] at HA HPN HSN HST HPI3
   have HB3 := Lib.hid (PI.bnd HPI3.out (by omega))
   clear hA hat hPn hs hoff hk hop hbf hld HPI2 HPS HVK HYW HNB hy3
   have HY := Lib.hid H2.out.drew
   clear H2
   refine wp_region_held_drew (S := (fun w' => Kn.Own w' k.Z k.box ∧ Kn.Own w' f8 [.int .i64 ik, .int .i64 ib, .int .i64 ic, .int .i64 iv])) (by kernel_rfl) ⟨HY.out.zbox, HY.out.box (x := (f8, [.int .i64 ik, .int .i64 ib, .int .i64 ic, .int .i64 iv])) List.mem_cons_self⟩ (fun hSw0 => ?_)
   generalize w4.drew = wz at *
   refine Kn.takeS 0 ⟨some 57, _, _, _, _, _⟩ ?_
   refine Kn.takeS 1 ⟨some 58, _, _, _, _, _⟩ ?_
   refine Kn.takeS 2 ⟨some 59, _, _, _, _, _⟩ ?_
   refine Kn.takeS 3 ⟨some 60, _, _, _, _, _⟩ (v := (.pointer (some ⟨k.W, 0, none⟩))) (hy := fun w hSw => by
    have q0 := hSw.1.cellv 8
    go_simp) ?_
   refine Kn.takeS 4 ⟨some 61, _, _, _, _, _⟩ (v := (.agg #[.int .i64 ik, .int .i64 ib, .int .i64 ic, .int .i64 iv])) (hy := fun w hSw => by
    obtain ⟨q0, q1, q2, q3⟩ := own4 hSw.2
    go_simp) ?_
   refine Kn.takeS 5 ⟨some 62, _, _, _, _, _⟩ ?_
   refine Kn.takeR 6 ⟨some 63, _, _, _, _, _⟩ fun K hK => ?_
   go_simp
   refine (zi_add_eq HY.out HB.out HA.out List.mem_cons_self (by have := HN64.out; omega)).mono ?_
   rintro en wa ⟨rfl, hd⟩
   have HYa := Lib.hid hd
   clear hd
   clear HY
   refine hK.out _ _ ⟨HYa.out.zbox, HYa.out.box (x := (f8, [.int .i64 ik, .int .i64 ib, .int .i64 ic, .int .i64 iv])) List.mem_cons_self⟩ (fun hSn => ?_)
   clear hK K hSw0
   have hSw0 := hSn
   clear hSn
   refine Kn.takeS 7 ⟨some 56, _, _, _, _, _⟩ ?_
   refine Kn.takeS 8 ⟨some 64, _, _, _, _, _⟩ ?_
   refine Kn.takeS 9 ⟨some 65, _, _, _, _, _⟩ ?_
   refine Kn.takeS 10 ⟨some 10, _, _, _, _, _⟩ ?_
   refine Kn.takeS 11 ⟨some 11, _, _, _, _, _⟩ ?_
   refine wpAnyH_done (by kernel_rfl) ?_ _
   clear hSw0
   have ha1 : (10 + 24 * s + off != 0) = true := bne_iff_ne.2 (by omega)
   have ha2 : ((10 + 24 * s + off) == 0) = false := beq_eq_false_iff_ne.2 (by omega)
   have cg := HYa.out.zbox.cellv 2
   go_wp2_with fail
   refine (where8_any k.gb s off _ HYa.out.geo ⟨s1, s2⟩ ⟨by omega, by omega⟩).mono ?_
   rintro en w5 ⟨rfl, hO⟩
   have H5 := Lib.hid (HYa.out.keep0 hO)
   clear hO HYa cg
   go_wp2_with fail
   refine (among_any A5 m c5 ats (10 + 24 * s + off) _ (H5.out.ins 0 rfl) HNE.out).mono ?_
   rintro en w6 ⟨rfl, nk, hw6⟩
   have H6 := Lib.hid (H5.out.keep0 ((Only.refl _ _).drewN nk))
   rw [← hw6] at H6
   clear H5 hw6
   have ho2 : ¬ off < 2 := by omega
   have ho3 : ¬ off > 22 := by omega
   have ct := H6.out.zbox.cellv 6
   go_wp2_with fail
   refine (zi_state H6.out HB3.out s).mono ?_
   rw [HST.out]
   rintro en w7 ⟨rfl, rfl⟩
   have HATS : Hid (ats.length = m) := Lib.hid HAM.out
   have HAL := Lib.hid (H6.out.alloc (.cells #[.int .i64 (10 + 24 * s + off)] 3))
   have HALS := Lib.hid HAL.out.only.size
   have HALI := Lib.hid (ins_one15 w6 (10 + 24 * s + off))
   clear H6 ct HAM
   obtain ⟨i0, hi0, hz0, hz1, hz2⟩ := info_parts Try.infoInt
   go_upto_region 19 with (first
    | (at_builtin; (refine wpList_append_row1 rfl (.tmp 112) (.tmp 114) 22 rfl w.heap.size 3 i0 _ 8 Try.underlying22 hi0 hz0 hz1 hz2 rfl (.slice A5 m c5) m (ivs ats) rfl (HAL.out.gi 0 rfl) _ 1 1 (ivs [10 + 24 * s + off]) rfl HALI.out (ivs_one15 _) HMX.out (by omega) HALS.out ?_; intro v5 w7 hown5 hgrow5 hat5; rw [← ivs_app15] at hown5; have hdd := HAL.out.gapp 0 rfl hown5 hgrow5 hat5; obtain ⟨A7, c7, rfl⟩ := hdd.gform 0 rfl; simp only [List.set_cons_zero, List.set_cons_succ] at hdd; have HE := Lib.hid hdd; have HAM := Lib.hid (HE.out.alloc (.cells #[.int .i64 (j : Int)] 3)); have HAMI := Lib.hid (ins_one15 w7 (j : Int)); have HAMS := Lib.hid HAM.out.only.size; clear HE; clear hdd hown5 hgrow5 hat5 HAL HALI HALS))
    | (at_builtin; (refine wpList_append_row1 rfl (.tmp 116) (.tmp 118) 22 rfl w.heap.size 3 i0 _ 8 Try.underlying22 hi0 hz0 hz1 hz2 rfl (.slice A6 m c6) m (ivs nums) rfl (HAM.out.gi 1 rfl) _ 1 1 (ivs [(j : Int)]) rfl HAMI.out (ivs_one15 _) HMX.out (by omega) HAMS.out ?_; intro v5 w8 hown5 hgrow5 hat5; rw [← ivs_app15] at hown5; have hdd := HAM.out.gapp 1 rfl hown5 hgrow5 hat5; obtain ⟨A8, c8b, rfl⟩ := hdd.gform 1 rfl; simp only [List.set_cons_zero, List.set_cons_succ] at hdd; have HF := Lib.hid hdd; clear hdd hown5 hgrow5 hat5 HAM HAMI HAMS))
    | fail)
   clear hi0 hz0 hz1 hz2 i0
   have cw := HF.out.zbox.cellv 8
   go_wp2_with fail
   refine (zi_read_eq HF.out HB3.out HPN.out.rd).mono ?_
   rintro en w9 ⟨A9, n9, c9, rfl, hd⟩
   have HG := Lib.hid hd
   clear hd HF cw
   go_wp2_with fail
   refine (alike_bytes_any A9 n9 c9 (fillB (j : Int)) Ab 64 cb (fillB (j : Int)) _ (HG.out.fact (f := (fun W => Bys W A9 n9 c9 (fillB (j : Int)))) List.mem_cons_self) (HG.out.fact (f := (fun W => Bys W Ab 64 cb (fillB (j : Int)))) (List.mem_cons_of_mem _ List.mem_cons_self))).mono ?_
   rintro en w10 ⟨rfl, nk2, rfl⟩
   rw [decide_eq_true (rfl : fillB (j : Int) = fillB (j : Int))]
   have HK := Lib.hid (HG.out.keep0 ((Only.refl _ _).drewN nk2)).ldrop.fdrop.fdrop
   clear HG
   go_wp2
   go_roundg (gk - 1)
   case measure => omega
   case rel => exact ⟨j + 1, m + 1, tn + dn, y3, ats ++ [10 + 24 * s + off], nums ++ [(j : Int)], A7, A8, c7, c8b, by omega, rfl, rfl, by go_num, by omega, by rw [List.length_append, HATS.out]; rfl, HPI3.out.mono (by push_cast; omega), HSN.out, HK.out⟩
  ·have hat : y.at_ c8 (⟨ik, ib, ic, iv⟩ : It) = 0 := if_neg (by rw [hld]; decide)
   rw [hat, hbf] at hA
   rw [hbf] at H2
   have hp2 := HPI2.out
   have hs2 := HPS.out
   rw [hbf] at hp2 hs2
   obtain ⟨y3, hy3⟩ : ∃ y3, y.put (⟨ik, ib, ic, iv⟩ : It) [] = y3 := ⟨_, rfl⟩
   rw [hy3] at hA hp2 hs2
   have HA := Lib.hid hA
   have HPI3 := Lib.hid hp2
   have HSN := Lib.hid hs2
   have hnb0 : nb = 0 := by rw [HNB.out, hbf]; rfl
   subst hnb0
   clear hA hat hp2 hs2 hbf hld HPI2 HPS HVK HYW HNB HNE hy3
   have HY := Lib.hid H2.out.drew
   clear H2
   refine wp_region_held_drew (S := (fun w' => Kn.Own w' k.Z k.box ∧ Kn.Own w' f8 [.int .i64 ik, .int .i64 ib, .int .i64 ic, .int .i64 iv])) (by kernel_rfl) ⟨HY.out.zbox, HY.out.box (x := (f8, [.int .i64 ik, .int .i64 ib, .int .i64 ic, .int .i64 iv])) List.mem_cons_self⟩ (fun hSw0 => ?_)
   generalize w4.drew = wz at *
   refine Kn.takeS 0 ⟨some 57, _, _, _, _, _⟩ ?_
   refine Kn.takeS 1 ⟨some 58, _, _, _, _, _⟩ ?_
   refine Kn.takeS 2 ⟨some 59, _, _, _, _, _⟩ ?_
   refine Kn.takeS 3 ⟨some 60, _, _, _, _, _⟩ (v := (.pointer (some ⟨k.W, 0, none⟩))) (hy := fun w hSw => by
    have q0 := hSw.1.cellv 8
    go_simp) ?_
   refine Kn.takeS 4 ⟨some 61, _, _, _, _, _⟩ (v := (.agg #[.int .i64 ik, .int .i64 ib, .int .i64 ic, .int .i64 iv])) (hy := fun w hSw => by
    obtain ⟨q0, q1, q2, q3⟩ := own4 hSw.2
    go_simp) ?_
   refine Kn.takeS 5 ⟨some 62, _, _, _, _, _⟩ ?_
   refine Kn.takeR 6 ⟨some 63, _, _, _, _, _⟩ fun K hK => ?_
   go_simp
   refine (zi_add_eq HY.out HB.out HA.out List.mem_cons_self (by have := HN64.out; omega)).mono ?_
   rintro en wa ⟨rfl, hd⟩
   have HYa := Lib.hid hd
   clear hd
   clear HY
   refine hK.out _ _ ⟨HYa.out.zbox, HYa.out.box (x := (f8, [.int .i64 ik, .int .i64 ib, .int .i64 ic, .int .i64 iv])) List.mem_cons_self⟩ (fun hSn => ?_)
   clear hK K hSw0
   have hSw0 := hSn
   clear hSn
   refine Kn.takeS 7 ⟨some 56, _, _, _, _, _⟩ ?_
   refine Kn.takeS 8 ⟨some 64, _, _, _, _, _⟩ ?_
   refine Kn.takeS 9 ⟨some 65, _, _, _, _, _⟩ ?_
   refine Kn.takeS 10 ⟨some 10, _, _, _, _, _⟩ ?_
   refine Kn.takeS 11 ⟨some 11, _, _, _, _, _⟩ ?_
   refine wpAnyH_done (by kernel_rfl) ?_ _
   clear hSw0
   go_wp2
   go_roundg (gk - 1)
   case measure => omega
   case rel => exact ⟨j + 1, m, tn + dn, y3, ats, nums, A5, A6, c5, c6, by omega, rfl, rfl, by go_num, by omega, HAM.out, HPI3.out.mono (by push_cast; omega), HSN.out, HYa.out.ldrop.fdrop⟩
 ·obtain rfl : n = j := by omega
  have HB := Lib.hid (PI.bnd HPI.out (by omega))
  obtain ⟨y, he, hs2, hyb, hyw, hyi, hyl, hyo, hyh, hys⟩ := HPL.out.emit HPI.out.h (by have := HB.out.l; omega)
  have HE := Lib.hid he
  have HS2 := Lib.hid hs2
  have HYB := Lib.hid hyb
  have HYW := Lib.hid hyw
  have hbz : Bnd y := { ok := hyo 8 HPI.out.ok, s := hys, o := hyw.o, l := ⟨hyw.l, by have h1 := HPI.out.l; have h2 := HPI.out.tn7; omega⟩, held := by have h1 := HPI.out.held; have h2 := HPI.out.tn7; have h3 := HB.out.bl; omega, its := by rw [hyi]; decide, bl := by rw [hyb]; decide, f64 := by rw [hyb]; simp }
  have HBZ := Lib.hid hbz
  clear he hs2 hyb hyw hyi hyl hyo hyh hys hbz
  have cw := HR.out.zbox.cellv 8
  go_wp2_with fail
  refine (zi_emit_eq HR.out HB.out HE.out).mono ?_
  rintro en w3 ⟨rfl, hd⟩
  have HX := Lib.hid hd
  clear hd HR cw HB HPI HPL HE
  go_wp2_with fail
  go_loopg [17] m (fun rr t17 wr => ∃ i : Nat, i + rr = m ∧ t17 = .int .i64 (i : Int) ∧ ZI w wr k y L' [⟨3, 1, .slice A5 m c5, m, ivs ats⟩, ⟨3, 1, .slice A6 m c6, m, ivs nums⟩] [(fun W => Ins W A n c l), (fun W => Ins W none 0 0 [])])
  case atStart => exact ⟨0, by omega, rfl, HX.out⟩
  clear HX
  obtain ⟨i, hi, rfl, hd⟩ := hrel
  have HR := Lib.hid hd
  clear hd
  by_cases hlt2 : i < m
  ·have hlt3 : (i : Int) < (m : Int) := by omega
   have hia : i < ats.length := by rw [HAM.out]; exact hlt2
   have hin : i < nums.length := by rw [← HS2.out.1]; exact hia
   obtain ⟨a, ha⟩ : ∃ a, ats[i] = a := ⟨_, rfl⟩
   obtain ⟨x, hx⟩ : ∃ x, nums[i] = x := ⟨_, rfl⟩
   obtain ⟨hxr, hrd, hdr, hde⟩ := HS2.out.fin HYW.out HYB.out (j := i) (a := a) (x := x) (by rw [List.getElem?_eq_getElem hia, ha]) (by rw [List.getElem?_eq_getElem hin, hx])
   have hxw : (Lit.int .i64 x).wf = true := by simp [Lit.wf, IntKind.min, IntKind.max, IntKind.signed, IntKind.bits]; omega
   obtain ⟨g5, o5, hA5, _⟩ := (HR.out.ins 0 rfl).at_ (by omega)
   obtain ⟨g6, o6, hA6, _⟩ := (HR.out.ins 1 rfl).at_ (by omega)
   have HCA : Hid (∀ V : World, Ins V A5 m c5 ats → V.cell? ⟨g5, o5 + i, none⟩ = some (.int .i64 a)) := Lib.hid (fun V hV => by
    obtain ⟨g2, o2, hA2, hc2⟩ := hV.at_ (by omega)
    rw [hA5] at hA2
    injection hA2 with hA2
    injection hA2 with e1 e2
    subst e1 e2
    have := hc2 i (by rw [ivs, List.length_map]; exact hia)
    rw [this, ← ha]
    simp [ivs])
   have HCN : Hid (∀ V : World, Ins V A6 m c6 nums → V.cell? ⟨g6, o6 + i, none⟩ = some (.int .i64 x)) := Lib.hid (fun V hV => by
    obtain ⟨g2, o2, hA2, hc2⟩ := hV.at_ (by omega)
    rw [hA6] at hA2
    injection hA2 with hA2
    injection hA2 with e1 e2
    subst e1 e2
    have := hc2 i (by rw [ivs, List.length_map]; exact hin)
    rw [this, ← hx]
    simp [ivs])
   have HRD := Lib.hid hrd
   have HDR := Lib.hid hdr
   have HDE := Lib.hid hde
   have HXW := Lib.hid hxw
   subst hA5 hA6
   clear hxr hrd hdr hde hxw ha hx hia hin
   go_wp2_with fail
   have HY := Lib.hid HR.out.drew
   clear HR
   refine wp_region_held_drew (S := (fun w' => Kn.Own w' k.Z k.box ∧ w'.cell? ⟨g5, o5 + i, none⟩ = some (.int .i64 a))) (by kernel_rfl) ⟨HY.out.zbox, HCA.out _ (HY.out.ins 0 rfl)⟩ (fun hSw0 => ?_)
   generalize wr.drew = wz at *
   refine Kn.takeS 0 ⟨some 150, _, _, _, _, _⟩ ?_
   refine Kn.takeS 1 ⟨some 151, _, _, _, _, _⟩ ?_
   refine Kn.takeS 2 ⟨some 152, _, _, _, _, _⟩ ?_
   refine Kn.takeS 3 ⟨some 153, _, _, _, _, _⟩ (v := (.pointer (some ⟨k.W, 0, none⟩))) (hy := fun w hSw => by
    have q0 := hSw.1.cellv 8
    go_simp) ?_
   refine Kn.takeS 4 ⟨some 154, _, _, _, _, _⟩ ?_
   refine Kn.takeS 5 ⟨some 155, _, _, _, _, _⟩ ?_
   refine Kn.takeS 6 ⟨some 156, _, _, _, _, _⟩ ?_
   refine Kn.takeS 7 ⟨some 157, _, _, _, _, _⟩ (v := (.int .i64 a)) (hy := fun w hSw => by
    have q0 := hSw.2
    go_simp) ?_
   refine Kn.takeR 8 ⟨some 158, _, _, _, _, _⟩ fun K hK => ?_
   go_simp
   refine (zi_read_eq HY.out HBZ.out HRD.out).mono ?_
   rintro en wa ⟨A8, n8, c8a, rfl, hd⟩
   have HYr := Lib.hid hd
   clear hd
   clear HY
   refine hK.out _ _ ⟨HYr.out.zbox, HCA.out _ (HYr.out.ins 0 rfl)⟩ (fun hSn => ?_)
   clear hK K hSw0
   have hSw0 := hSn
   clear hSn
   refine Kn.takeS 9 ⟨some 149, _, _, _, _, _⟩ ?_
   refine Kn.takeS 10 ⟨some 159, _, _, _, _, _⟩ ?_
   refine Kn.takeS 11 ⟨some 160, _, _, _, _, _⟩ ?_
   refine Kn.takeS 12 ⟨some 18, _, _, _, _, _⟩ ?_
   refine Kn.takeS 13 ⟨some 19, _, _, _, _, _⟩ ?_
   refine wpAnyH_done (by kernel_rfl) ?_ _
   clear hSw0
   go_wp2_with fail
   have HV := Lib.hid HYr.out.drew
   clear HYr
   refine wp_region_held_drew (S := (fun w' => Kn.Own w' k.Z k.box ∧ w'.cell? ⟨g5, o5 + i, none⟩ = some (.int .i64 a))) (by kernel_rfl) ⟨HV.out.zbox, HCA.out _ (HV.out.ins 0 rfl)⟩ (fun hSw0 => ?_)
   generalize wa.drew = wy at *
   refine Kn.takeS 0 ⟨some 162, _, _, _, _, _⟩ ?_
   refine Kn.takeS 1 ⟨some 163, _, _, _, _, _⟩ ?_
   refine Kn.takeS 2 ⟨some 164, _, _, _, _, _⟩ ?_
   refine Kn.takeS 3 ⟨some 165, _, _, _, _, _⟩ (v := (.pointer (some ⟨k.p.D, 0, none⟩))) (hy := fun w hSw => by
    have q0 := hSw.1.cellv 0
    go_simp) ?_
   refine Kn.takeS 4 ⟨some 166, _, _, _, _, _⟩ ?_
   refine Kn.takeS 5 ⟨some 167, _, _, _, _, _⟩ ?_
   refine Kn.takeS 6 ⟨some 168, _, _, _, _, _⟩ ?_
   refine Kn.takeS 7 ⟨some 169, _, _, _, _, _⟩ (v := (.int .i64 a)) (hy := fun w hSw => by
    have q0 := hSw.2
    go_simp) ?_
   refine Kn.takeR 8 ⟨some 170, _, _, _, _, _⟩ fun K hK => ?_
   go_simp
   refine (zi_dread HV.out a).mono ?_
   rw [HDR.out, HDE.out]
   rintro en wb ⟨A9, n9, c9, rfl, hfc, hO⟩
   have HVd := Lib.hid (HV.out.addFc hO hfc)
   clear hO hfc
   clear HV
   refine hK.out _ _ ⟨HVd.out.zbox, HCA.out _ (HVd.out.ins 0 rfl)⟩ (fun hSn => ?_)
   clear hK K hSw0
   have hSw0 := hSn
   clear hSn
   refine Kn.takeS 9 ⟨some 161, _, _, _, _, _⟩ ?_
   refine Kn.takeS 10 ⟨some 171, _, _, _, _, _⟩ ?_
   refine Kn.takeS 11 ⟨some 172, _, _, _, _, _⟩ ?_
   refine Kn.takeS 12 ⟨some 20, _, _, _, _, _⟩ ?_
   refine Kn.takeS 13 ⟨some 21, _, _, _, _, _⟩ ?_
   refine wpAnyH_done (by kernel_rfl) ?_ _
   clear hSw0
   have cn := HCN.out _ (HVd.out.ins 1 rfl)
   go_wp2_with fail
   refine (fill_any x _ HXW.out).mono ?_
   rintro en w4 ⟨g, rfl, hg, hown, hO⟩
   have HJ := Lib.hid (HVd.out.addFill hO hg hown)
   clear hg hown hO HVd cn
   go_wp2_with fail
   refine (alike_bytes_any A8 n8 c8a (fillB x) (some ⟨g, 0, none⟩) 64 64 (fillB x) _ (HJ.out.fact (f := (fun W => Bys W A8 n8 c8a (fillB x))) (by simp)) (HJ.out.fact (f := (fun W => Bys W (some ⟨g, 0, none⟩) 64 64 (fillB x))) List.mem_cons_self)).mono ?_
   rintro en w5 ⟨rfl, nk, rfl⟩
   rw [decide_eq_true (rfl : fillB x = fillB x)]
   have HK := Lib.hid (HJ.out.keep0 ((Only.refl _ _).drewN nk))
   clear HJ
   have cn := HCN.out _ (HK.out.ins 1 rfl)
   go_wp2_with fail
   refine (fill_any x _ HXW.out).mono ?_
   rintro en w6 ⟨g9, rfl, hg, hown, hO⟩
   have HM := Lib.hid (HK.out.addFill hO hg hown)
   clear hg hown hO HK cn
   go_wp2_with fail
   refine (alike_bytes_any A9 n9 c9 (fillB x) (some ⟨g9, 0, none⟩) 64 64 (fillB x) _ (HM.out.fact (f := (fun W => Bys W A9 n9 c9 (fillB x))) (by simp)) (HM.out.fact (f := (fun W => Bys W (some ⟨g9, 0, none⟩) 64 64 (fillB x))) List.mem_cons_self)).mono ?_
   rintro en w7 ⟨rfl, nk2, rfl⟩
   rw [decide_eq_true (rfl : fillB x = fillB x)]
   have HQ := Lib.hid (HM.out.keep0 ((Only.refl _ _).drewN nk2)).fdrop.fdrop.fdrop.fdrop
   clear HM
   go_wp2
   go_roundg (gk - 1)
   case measure => omega
   case rel => exact ⟨i + 1, by omega, by go_num, HQ.out⟩
  ·obtain rfl : i = m := by omega
   go_wp2_with fail
   refine (awake15_any _).mono ?_
   rintro en w4 ⟨rfl, hO⟩
   have HO := Lib.hid (HR.out.only.trans' hO)
   clear hO HR
   go_wp2
   go_ret
   exact ⟨rfl, HO.out⟩
end Go.Proofs.Ytgcfdjcpcclcjaa
