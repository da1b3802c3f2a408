/- ScnA, ScnB, ItemD, KitB, KitC, RecF, KitE, ScnC, ScnD, ScnE: joined by pack.py, without what the claim does not use. -/
import Derived.Test.YtgcfdjcpcclcjaaGreatWriterBackC
set_option linter.unusedVariables false
set_option linter.unusedSimpArgs false
namespace Go.Proofs.YtgcfdjcpcclcjaaGreat
open Go Go.RowKit Go.Kn
structure DskRd (w : World) (p : PD) (d : Dk) : Prop where
 ok : d.Ok
 N : d.safe.length = p.N
 D_ : ∃ v, Kn.Own w p.D (p.box v d)
 n_ : Kn.Own w p.n (flat d.now)
 f_ : Kn.Own w p.f (bls d.faults)
/-- the disk is among some boxes -/
structure DkIn (p : PD) (d : Dk) (L : List (Nat × List Value)) : Prop where
 ok : d.Ok
 N : d.safe.length = p.N
 D_ : ∃ v, (p.D, p.box v d) ∈ L
 n_ : (p.n, flat d.now) ∈ L
 f_ : (p.f, bls d.faults) ∈ L
theorem DkIn.rd {w : World} {p : PD} {d : Dk} {L L' : List (Nat × List Value)} (h : DkIn p d L) (hw : ∀ x ∈ L', Kn.Own w x.1 x.2) (hL : ∀ x ∈ L, x ∈ L') : DskRd w p d :=
 ⟨h.ok, h.N, by obtain ⟨v, hv⟩ := h.D_; exact ⟨v, hw _ (hL _ hv)⟩, hw _ (hL _ h.n_), hw _ (hL _ h.f_)⟩
theorem DkIn.mono {p : PD} {d : Dk} {L L' : List (Nat × List Value)} (h : DkIn p d L) (hL : ∀ x ∈ L, x ∈ L') : DkIn p d L' := ⟨h.ok, h.N, by obtain ⟨v, hv⟩ := h.D_; exact ⟨v, hL _ hv⟩, hL _ h.n_, hL _ h.f_⟩
theorem dk_has_rd (w : World) (p : PD) (d : Dk) (a : Int) (h : DskRd w p d) :
    Calls Tryz.prog 83 #[.pointer (some ⟨p.D, 0, none⟩), .int .i64 a] w fun e w' => e = .returned (.bool (d.has a)) ∧ w = w' := by
  obtain ⟨v, hb⟩ := h.D_
  have c1 := hb.cell 1 (by simp [PD.box])
  have hN := h.N
  have hn := h.ok.n
  have hlt : decide (a < (p.N : Int)) = decide (a < (d.safe.length : Int)) := by rw [hN]
  simp only [PD.box, List.getElem_cons_zero, List.getElem_cons_succ] at c1
  have HN := Lib.hid hN
  have hn' : 1 ≤ p.N ∧ p.N ≤ 4096 := by omega
  obtain ⟨hn1, hn2⟩ := hn'
  clear hb hN hn hlt h
  go_enter Tryz.func83, Tryz.ntmps83
  by_cases h1 : 0 ≤ a <;> by_cases h2 : a < (p.N : Int) <;>
  (go_wp2
   go_ret
   exact ⟨by unfold Dk.has; rw [HN.out]; simp [*], rfl⟩)
set_option maxRecDepth 100000 in
set_option maxHeartbeats 4000000 in
theorem dk_read_rd (w : World) (p : PD) (d : Dk) (a : Int) (h : DskRd w p d) :
  Calls Tryz.prog 23 #[.pointer (some ⟨p.D, 0, none⟩), .int .i64 a] w (RdSays w (d.read a) (d.err a)) := by
 obtain ⟨v, hbx⟩ := h.D_
 have c1 := hbx.cell 1 (by simp [PD.box])
 have c3 := hbx.cell 3 (by simp [PD.box])
 have c6 := hbx.cell 6 (by simp [PD.box])
 simp only [PD.box, List.getElem_cons_zero, List.getElem_cons_succ] at c1 c3 c6
 have hfb := h.f_
 have hnb := h.n_
 have H := Lib.hid h
 have hN := h.N
 have hF := h.ok.f
 have hn := h.ok.n
 by_cases ho : d.has a = true
 ·have hr : 0 ≤ a ∧ a < (p.N : Int) := by unfold Dk.has at ho; simp only [decide_eq_true_eq] at ho; omega
  obtain ⟨k, rfl⟩ : ∃ k : Nat, a = k := ⟨a.toNat, by omega⟩
  have hkN : k < p.N := by omega
  have hN1 : 1 ≤ p.N ∧ p.N ≤ 4096 := by omega
  obtain ⟨hN1, hN2⟩ := hN1
  have HO := Lib.hid ho
  by_cases hof : d.off = true
  ·have e1 : d.err k = 3 := by unfold Dk.err; rw [if_pos ho, if_pos hof]
   have e2 : d.read k = [] := by unfold Dk.read; rw [e1]; rfl
   rw [e1, e2]
   rw [hof] at c6
   clear hbx hfb hnb h hN hF hn ho hof e1 e2 c1 c3
   go_enter Tryz.func23, Tryz.ntmps23
   go_wp2_with fail
   refine (dk_has_rd w p d k H.out).mono ?_
   rintro e w1 ⟨rfl, rfl⟩
   rw [HO.out]
   go_wp2
   go_ret2
   exact RdSays.none _ _
  ·rw [Bool.not_eq_true] at hof
   have hbl : k < (bls d.faults).length := by rw [bls_length]; omega
   have q0 := hfb.cell k hbl
   have hbg : (bls d.faults)[k] = .bool (d.bad k) := by
    unfold Dk.bad
    rw [bls_get, List.getD_eq_getElem?_getD, show ((k : Int)).toNat = k from by omega, List.getElem?_eq_getElem (by omega), Option.getD_some]
   rw [hbg] at q0
   rw [hof] at c6
   by_cases hb : d.bad k = true
   ·have e1 : d.err k = 4 := by unfold Dk.err; rw [if_pos ho, if_neg (by simp [hof]), if_pos hb]
    have e2 : d.read k = [] := by unfold Dk.read; rw [e1]; rfl
    rw [e1, e2]
    rw [hb] at q0
    clear hbx hfb hnb h hN hF hn ho hof e1 e2 c1 hbg hbl hb
    go_enter Tryz.func23, Tryz.ntmps23
    go_wp2_with fail
    refine (dk_has_rd w p d k H.out).mono ?_
    rintro e w1 ⟨rfl, rfl⟩
    rw [HO.out]
    go_wp2
    go_ret2
    exact RdSays.none _ _
   ·rw [Bool.not_eq_true] at hb
    have e1 : d.err k = 0 := by unfold Dk.err; rw [if_pos ho, if_neg (by simp [hof]), if_neg (by simp [hb])]
    have e2 : d.read k = d.sector k := by unfold Dk.read; rw [if_pos e1]
    rw [e1, e2]
    rw [hb] at q0
    have hkl : k < d.now.length := by rw [Dk.now_length]; omega
    have hsec : d.sector k = d.now[k] := by
     unfold Dk.sector
     rw [List.getD_eq_getElem?_getD, show ((k : Int)).toNat = k from by omega, List.getElem?_eq_getElem hkl, Option.getD_some]
    have hrow := Row1.subrow (n := 0) (o := 64 * k) (m := 64) (c := 64) hnb (by rw [flat_length _ h.ok.now64, Dk.now_length]; omega) (Nat.le_refl _) (by simp [maxLen])
    rw [flat_cut _ h.ok.now64 k hkl, ← hsec, Nat.mul_comm 64 k] at hrow
    have hsl := Dk.sector_64 h.ok ho
    have HR := Lib.hid hrow
    clear hbx hfb hnb h hN hF hn ho hof e1 e2 hbg hbl hb hrow hsec hkl
    go_enter Tryz.func23, Tryz.ntmps23
    go_wp2_with fail
    refine (dk_has_rd w p d k H.out).mono ?_
    rintro e w1 ⟨rfl, rfl⟩
    rw [HO.out]
    go_wp2_with fail
    refine (clone_any _ 64 64 _ _ (by exact HR.out) (by decide)).mono ?_
    rintro e w1 ⟨A, cc, rfl, hcc, hcm, hpos, hO⟩
    have hfc := MadeBys.fc hcc hcm hpos
    rw [hsl] at hfc
    have HF := Lib.hid hfc
    have HO1 := Lib.hid hO
    clear hfc hpos hO
    go_wp2
    go_ret2
    exact ⟨A, _, cc, rfl, HF.out, HO1.out⟩
 ·have e1 : d.err a = 1 := by unfold Dk.err; rw [if_neg ho]
  have e2 : d.read a = [] := by unfold Dk.read; rw [e1]; rfl
  rw [e1, e2]
  rw [Bool.not_eq_true] at ho
  have HO := Lib.hid ho
  clear hbx hfb hnb h hN hF hn ho e1 e2
  go_enter Tryz.func23, Tryz.ntmps23
  go_wp2_with fail
  refine (dk_has_rd w p d a H.out).mono ?_
  rintro e w1 ⟨rfl, rfl⟩
  rw [HO.out]
  go_wp2
  go_ret2
  exact RdSays.none _ _
/-- the cells of a Scan -/
def SB (D gb : Nat) (p : Ps) (own : Bool) (e : Ps) (er : Int) : List Value :=
 [.pointer (some ⟨D, 0, none⟩), .pointer (some ⟨gb, 0, none⟩), .int .i64 p.s, .int .i64 p.o, .int .i64 p.l, .int .i64 p.p, .int .i64 p.m, .bool own, .int .i64 e.s, .int .i64 e.o, .int .i64 e.l, .int .i64 e.p, .int .i64 e.m, .int .i64 er]
def ReadSays (w0 wb : World) (S D gb : Nat) (p : Ps) (own : Bool) (e : Ps) (L : List (Nat × List Value)) (G : List Gs) (F : List (World → Prop)) (b : List UInt8) (er : Int) (en : Ending) (w' : World) : Prop :=
 ∃ A n c, en = .returned (.tuple #[.slice A n c, .bool (decide (er = 0))]) ∧ Wk w0 wb w' ((S, SB D gb p own e er) :: L) G ((fun W => Bys W A n c b) :: F)
set_option maxRecDepth 100000 in
theorem scan_read_any {wb : World} (w0 w : World) (S gb : Nat) (pd : PD) (d : Dk) (p : Ps) (own : Bool) (e : Ps) (er : Int) (L : List (Nat × List Value)) (G : List Gs) (F : List (World → Prop)) (a : Int)
  (hw : Wk w0 wb w ((S, SB pd.D gb p own e er) :: L) G F) (hd : DkIn pd d L) :
  Calls Tryz.prog 183 #[.pointer (some ⟨S, 0, none⟩), .int .i64 a] w (ReadSays w0 wb S pd.D gb p own e L G F (d.read a) (d.err a)) := by
 have hb := hw.boxi 0 rfl
 have c0 := hb.cell 0 (by simp [SB])
 simp only [SB, List.getElem_cons_zero] at c0
 have H := Lib.hid hw
 have HR := Lib.hid (hd.rd hw.own (fun x hx => List.mem_cons_of_mem _ hx))
 clear hw hb hd
 go_enter Tryz.func183, Tryz.ntmps183
 go_wp2_with fail
 refine (dk_read_rd w pd d a HR.out).mono ?_
 rintro en w1 ⟨A, n, c, rfl, hfc, hO⟩
 have HW := Lib.hid (H.out.addFc hO hfc)
 have h13 := (HW.out.boxi 0 (p := S) rfl)
 have y0 := h13.cell 13 (by simp [SB])
 have f13 := h13.frozen 13
 simp only [SB, List.getElem_cons_zero, List.getElem_cons_succ] at y0
 have HE := Lib.hid (HW.out.put 0 (p := S) rfl 13 (.int .i64 (d.err a)))
 obtain ⟨z, hz⟩ : ∃ z, d.err a = z := ⟨_, rfl⟩
 rw [hz] at HE ⊢
 have HZ := Lib.hid hz
 clear hfc hO h13 H HR hz
 by_cases h0 : z = 0
 ·subst h0
  go_wp2_with fail
  go_quiet (fail)
  go_wp2
  go_ret2
  rw [HZ.out]
  exact ⟨A, n, c, rfl, HE.out.drewN _⟩
 ·have h1 : (z == 0) = false := by simpa using h0
  go_wp2_with fail
  go_quiet (fail)
  go_wp2
  go_ret2
  rw [HZ.out]
  exact ⟨A, n, c, by rw [decide_eq_false h0]; rfl, HE.out.drewN _⟩
theorem scan_end_any {wb : World} (w0 w : World) (S gb D : Nat) (p : Ps) (own : Bool) (e : Ps) (er : Int) (L : List (Nat × List Value)) (G : List Gs) (F : List (World → Prop))
  (hw : Wk w0 wb w ((S, SB D gb p own e er) :: L) G F) :
  Calls Tryz.prog 20 #[.pointer (some ⟨S, 0, none⟩)] w fun en w' => en = .returned (.agg #[.int .i64 e.s, .int .i64 e.o, .int .i64 e.l, .int .i64 e.p, .int .i64 e.m]) ∧ Only [] w w' := by
 have hres : Tryz.f20.results = #[.cell 2 32] := by kernel_rfl
 have HRES := Lib.hid hres
 have hb := hw.boxi 0 rfl
 have c0 := hb.cell 8 (by simp [SB])
 have c1 := hb.cell 9 (by simp [SB])
 have c2 := hb.cell 10 (by simp [SB])
 have c3 := hb.cell 11 (by simp [SB])
 have c4 := hb.cell 12 (by simp [SB])
 simp only [SB, List.getElem_cons_zero, List.getElem_cons_succ] at c0 c1 c2 c3 c4
 have hlt := hb.lt
 clear hw hb hres
 go_enter Tryz.func20, Tryz.ntmps20
 go_wp2
 (try simp only [Exit.inBlock, Exit.then])
 refine bodyPost_ret (v := .agg #[.int .i64 e.s, .int .i64 e.o, .int .i64 e.l, .int .i64 e.p, .int .i64 e.m]) ?_ rfl ⟨rfl, ?_⟩
 ·simp only [results, HRES.out]
  go_simp
 ·exact (Only.refl _ _).alloc _
theorem scan_err_any {wb : World} (w0 w : World) (S gb D : Nat) (p : Ps) (own : Bool) (e : Ps) (er : Int) (L : List (Nat × List Value)) (G : List Gs) (F : List (World → Prop))
  (hw : Wk w0 wb w ((S, SB D gb p own e er) :: L) G F) :
  Calls Tryz.prog 25 #[.pointer (some ⟨S, 0, none⟩)] w fun en w' => en = .returned (.int .i64 er) ∧ w = w' := by
 have hb := hw.boxi 0 rfl
 have c0 := hb.cell 13 (by simp [SB])
 simp only [SB, List.getElem_cons_zero, List.getElem_cons_succ] at c0
 clear hw hb
 go_enter Tryz.func25, Tryz.ntmps25
 go_wp2
 go_ret
 exact ⟨rfl, rfl⟩
/-- scan.New -/
def NewS (w0 wb : World) (D gb : Nat) (p : Ps) (own : Bool) (L : List (Nat × List Value)) (G : List Gs) (F : List (World → Prop)) (en : Ending) (w' : World) : Prop := ∃ S, en = .returned (.pointer (some ⟨S, 0, none⟩)) ∧ Wk w0 wb w' ((S, SB D gb p own p 0) :: L) G F
set_option maxRecDepth 100000 in
theorem scan_new_any {wb : World} (w0 w : World) (D gb : Nat) (p : Ps) (L : List (Nat × List Value)) (G : List Gs) (F : List (World → Prop)) (hw : Wk w0 wb w L G F) :
  Calls Tryz.prog 28 #[.pointer (some ⟨D, 0, none⟩), .pointer (some ⟨gb, 0, none⟩), .agg #[.int .i64 p.s, .int .i64 p.o, .int .i64 p.l, .int .i64 p.p, .int .i64 p.m]] w (NewS w0 wb D gb p false L G F) := by
 have H := Lib.hid hw
 clear hw
 go_enter Tryz.func28, Tryz.ntmps28
 go_wp2
 go_ret
 exact ⟨_, rfl, (H.out.alloc (.cells #[.int .i64 p.s, .int .i64 p.o, .int .i64 p.l, .int .i64 p.p, .int .i64 p.m] 32)).newB #[.pointer (some ⟨D, 0, none⟩), .pointer (some ⟨gb, 0, none⟩), .int .i64 p.s, .int .i64 p.o, .int .i64 p.l, .int .i64 p.p, .int .i64 p.m, .bool false, .int .i64 p.s, .int .i64 p.o, .int .i64 p.l, .int .i64 p.p, .int .i64 p.m, .int .i64 0] 147 (by simp)⟩
end Go.Proofs.YtgcfdjcpcclcjaaGreat
namespace Go.Kn
open Go Go.RowKit
def is7 (i : It) : Bool := i.k == 7
theorem nextOf_eq (r : Rc) : nextOf r = (r.its.find? is7).map (·.v) := rfl
theorem find_at {l : List It} {j : Nat} (hj : j < l.length) (h0 : (l.take j).find? is7 = none) (h1 : is7 l[j] = true) : l.find? is7 = some l[j] := by
 have e : l = l.take j ++ l[j] :: l.drop (j + 1) := by rw [List.getElem_cons_drop, List.take_append_drop]
 have e2 : l.find? is7 = (l.take j ++ l[j] :: l.drop (j + 1)).find? is7 := congrArg _ e
 rw [e2, List.find?_append, h0, List.find?_cons, h1]
 rfl
theorem find_step {l : List It} {j : Nat} (hj : j < l.length) (h0 : (l.take j).find? is7 = none) (h1 : is7 l[j] = false) : (l.take (j + 1)).find? is7 = none := by
 rw [List.take_succ_eq_append_getElem hj, List.find?_append, h0, List.find?_cons, h1]
 rfl
def IdxSays (w : World) (l : List It) (e : Ending) (w' : World) : Prop := Only [] w w' ∧ ((l.find? is7 = none ∧ e = .returned (.int .i64 (-1))) ∨ ∃ (j : Nat) (h : j < l.length), l.find? is7 = some l[j] ∧ e = .returned (.int .i64 j))
end Go.Kn
namespace Go.Proofs.YtgcfdjcpcclcjaaGreat
open Go Go.RowKit Go.Kn Go.Shelf
theorem next1_any (k b c v : Int) (w : World) : Calls Tryz.prog 189 #[.agg #[.int .i64 k, .int .i64 b, .int .i64 c, .int .i64 v]] w fun e w' => e = .returned (.bool (k == 7)) ∧ Only [] w w' := by
 go_enter Tryz.func189, Tryz.ntmps189
 by_cases h : k = 7
 ·subst h
  go_wp2
  go_ret
  exact ⟨rfl, (Only.refl _ _).alloc _⟩
 ·have h1 : (k == 7) = false := by simpa using h
  go_wp2
  go_ret
  exact ⟨by simp [h], (Only.refl _ _).alloc _⟩
set_option maxRecDepth 100000 in
set_option maxHeartbeats 2000000 in
theorem next_index_any (A : Option Addr) (n c : Nat) (l : List It) (w : World) (hi : Its w A n c l) :
  Calls Tryz.prog 188 #[.slice A n c, .func (.func 189) #[] #[]] w (IdxSays w l) := by
 have hlen := hi.len
 have hcm := hi.cm
 have hcl := hi.le
 unfold maxLen at hcm
 have HI := Lib.hid hi
 have HL := Lib.hid hlen
 clear hi hlen
 have eg : ∀ args w, (callFunc 189 args).run Tryz.prog w = .ok (.enter 189 args) w := enters_of Tryz.func189 (by kernel_rfl) rfl
 go_enter Tryz.func188, Tryz.ntmps188
 go_wp2_with fail
 go_loopg [5, 8] n (fun r _ i wr => ∃ j : Nat, j + r = n ∧ i = .int .i64 j ∧ Only [] w wr ∧ (l.take j).find? is7 = none)
 case atStart => exact ⟨0, by omega, rfl, Only.refl _ _, by simp⟩
 obtain ⟨j, hj, rfl, hO, hal⟩ := hrel
 have HAL := Lib.hid hal
 have HO := Lib.hid hO
 clear hal hO
 by_cases hlt : j < n
 ·have hjz : j < l.length := by rw [HL.out]; exact hlt
  obtain ⟨a, o, rfl, hc⟩ := (HI.out.keep0 HO.out).at_ (by omega)
  obtain ⟨c0, c1, c2, c3⟩ := hc j hjz
  obtain ⟨⟨ik, ib, ic, iv⟩, hit⟩ : ∃ i, l[j] = i := ⟨_, rfl⟩
  have HIT := Lib.hid hit
  rw [hit] at c0 c1 c2 c3
  simp only at c0 c1 c2 c3
  have h7 : is7 l[j] = (ik == 7) := by rw [hit]; rfl
  have H7 := Lib.hid h7
  clear hc hit h7
  have hlt2 : (j : Int) < (n : Int) := by omega
  go_wp2_with fail
  refine (next1_any ik ib ic iv _).mono ?_
  rintro e w2 ⟨rfl, hO2⟩
  have HO2 := Lib.hid (HO.out.trans' hO2)
  clear hO2 c0 c1 c2 c3
  by_cases hm : ik = 7
  ·subst hm
   have H8 : Hid (is7 l[j] = true) := Lib.hid H7.out
   go_wp2
   go_ret
   exact ⟨HO2.out, .inr ⟨j, hjz, find_at hjz HAL.out H8.out, rfl⟩⟩
  ·have h1 : (ik == 7) = false := by simpa using hm
   have H8 : Hid (is7 l[j] = false) := Lib.hid (by rw [H7.out, h1])
   have HM := Lib.hid hm
   clear hm
   go_wp2
   go_roundg (gk - 1)
   case measure => omega
   case rel => exact ⟨j + 1, by omega, by go_num, HO2.out, find_step hjz HAL.out H8.out⟩
 ·obtain rfl : j = n := by omega
  have hfull : l.take j = l := List.take_of_length_le (by rw [HL.out]; omega)
  have hal := HAL.out
  rw [hfull] at hal
  have HAL' := Lib.hid hal
  clear hal hfull
  go_wp2
  go_ret
  exact ⟨HO.out, .inl ⟨HAL'.out, rfl⟩⟩
set_option maxRecDepth 100000 in
set_option maxHeartbeats 2000000 in
theorem rec_next_any (x : Rc) (s t : Option Addr × Nat × Nat) (w : World) (hi : Its w s.1 s.2.1 s.2.2 x.its) :
  Calls Tryz.prog 154 #[.agg (x.cells s t)] w fun e w' => e = .returned (.tuple #[.int .i64 ((nextOf x).getD 0), .bool (nextOf x).isSome]) ∧ Only [] w w' := by
 obtain ⟨s1, s2, s3⟩ := s
 obtain ⟨t1, t2, t3⟩ := t
 have hcm := hi.cm
 have hcl := hi.le
 have hlen := hi.len
 unfold maxLen at hcm
 simp only at hi hcm hcl hlen
 have HB := Lib.hid (Own.new w #[.int .i64 x.m, .int .i64 x.n, .int .i64 x.p, .slice s1 s2 s3, .slice t1 t2 t3] 56)
 have HO := Lib.hid ((Only.refl [] w).alloc (.cells #[.int .i64 x.m, .int .i64 x.n, .int .i64 x.p, .slice s1 s2 s3, .slice t1 t2 t3] 56))
 have HI := Lib.hid (hi.keep0 HO.out)
 have HL := Lib.hid hlen
 clear hi hlen
 unfold Rc.cells
 simp only [slv]
 go_enter Tryz.func154, Tryz.ntmps154
 go_wp2_with fail
 refine (next_index_any s1 s2 s3 x.its _ HI.out).mono ?_
 rintro e w2 ⟨hO2, ⟨hf, rfl⟩ | ⟨j, hj, hf, rfl⟩⟩
 ·have e1 : nextOf x = none := by rw [nextOf_eq, hf]; rfl
  have E1 := Lib.hid e1
  have HO2 := Lib.hid (HO.out.trans' hO2)
  clear hf e1 hO2
  go_wp2
  go_ret2
  exact ⟨by rw [E1.out]; rfl, HO2.out⟩
 ·have e1 : nextOf x = some (x.its[j]).v := by rw [nextOf_eq, hf]; rfl
  have E1 := Lib.hid e1
  have hb := HB.out.keep0 hO2
  have y3 := hb.cell 3 (by simp)
  simp only [List.getElem_cons_zero, List.getElem_cons_succ] at y3
  have hjn : j < s2 := by rw [← HL.out]; exact hj
  obtain ⟨a, o, rfl, hc⟩ := (HI.out.keep0 hO2).at_ (by omega)
  obtain ⟨c0, c1, c2, c3⟩ := hc j hj
  have HO2 := Lib.hid (HO.out.trans' hO2)
  generalize (x.its[j]).v = iv at *
  have hlt2 : (j : Int) < (s2 : Int) := by omega
  clear hf e1 hO2 hc c0 c1 c2 hb hj
  go_wp2
  go_ret2
  exact ⟨by rw [E1.out]; rfl, HO2.out⟩
end Go.Proofs.YtgcfdjcpcclcjaaGreat
namespace Go.Kn
open Go Go.RowKit
instance : DecidableEq It := fun a b => by
 obtain ⟨a1, a2, a3, a4⟩ := a
 obtain ⟨b1, b2, b3, b4⟩ := b
 exact decidable_of_iff (a1 = b1 ∧ a2 = b2 ∧ a3 = b3 ∧ a4 = b4) (by simp)
end Go.Kn
namespace Go.Proofs.YtgcfdjcpcclcjaaGreat
open Go Go.RowKit Go.Kn
@[go_sem] theorem eq_item (a b c d e f g h : Int) (w : World) : (Op.equalIn 10000 63 (.agg #[.int .i64 a, .int .i64 b, .int .i64 c, .int .i64 d]) (.agg #[.int .i64 e, .int .i64 f, .int .i64 g, .int .i64 h])).run Tryz.prog w = .ok (a == e && b == f && c == g && d == h) w := by
 have u3 := Tryz.underlying3
 have a3 := Tryz.isAgg3
 have z3 := Tryz.sizeOf3
 have hS : Tryz.prog.underlying 63 = some (.struct (Tryz.prog.fieldsOf 63)) := by kernel_rfl
 rw [show (10000 : Nat) = 9999 + 1 from rfl, run_equalIn_agg w 9999 63 _ _ hS Tryz.stoodInHeld63]
 simp only [Program.fieldsOf, Tryz.underlying63]
 go_simp
 by_cases h1 : a = e <;> by_cases h2 : b = f <;> by_cases h3 : c = g <;> by_cases h4 : d = h <;> simp [h1, h2, h3, h4]
set_option maxRecDepth 100000 in
set_option maxHeartbeats 4000000 in
theorem alike_items_any (A : Option Addr) (n c : Nat) (xs : List It) (B : Option Addr) (m d : Nat) (ys : List It) (w : World) (hx : Its w A n c xs) (hy : Its w B m d ys) :
  Calls Tryz.prog 70 #[.slice A n c, .slice B m d] w fun e w' => e = .returned (.bool (decide (xs = ys))) ∧ ∃ k, w' = w.drewN k := by
 have hlx := hx.len
 have hly := hy.len
 have hcm := hx.cm
 have hcl := hx.le
 have hdm := hy.cm
 have hdl := hy.le
 unfold maxLen at hcm hdm
 have HX := Lib.hid hx
 have HY := Lib.hid hy
 have HLX := Lib.hid hlx
 have HLY := Lib.hid hly
 clear hx hy hlx hly
 by_cases hnm : n = m
 ·subst hnm
  go_enter Tryz.func70, Tryz.ntmps70
  go_wp2_with fail
  go_loopg [5] n (fun r i wr => ∃ j : Nat, j + r = n ∧ i = .int .i64 j ∧ (∃ k, wr = w.drewN k) ∧ xs.take j = ys.take j)
  case atStart => exact ⟨0, by omega, rfl, ⟨0, rfl⟩, by simp⟩
  obtain ⟨j, hj, rfl, ⟨k, rfl⟩, htk⟩ := hrel
  have HT := Lib.hid htk
  clear htk
  by_cases hlt : j < n
  ·have hjx : j < xs.length := by rw [HLX.out]; exact hlt
   have hjy : j < ys.length := by rw [HLY.out]; exact hlt
   obtain ⟨ga, oa, rfl, hca⟩ := HX.out.at_ (by omega)
   obtain ⟨gb, ob, rfl, hcb⟩ := HY.out.at_ (by omega)
   obtain ⟨p0, p1, p2, p3⟩ := hca j hjx
   obtain ⟨q0, q1, q2, q3⟩ := hcb j hjy
   clear hca hcb
   have hlt2 : (j : Int) < (n : Int) := by omega
   have hge : 0 ≤ (j : Int) := by omega
   have htn : ((j : Int)).toNat = j := by omega
   have hxy : decide (xs[j] = ys[j]) = (xs[j].k == ys[j].k && xs[j].b == ys[j].b && xs[j].c == ys[j].c && xs[j].v == ys[j].v) := by
    rcases hh : xs[j] with ⟨a1, a2, a3, a4⟩
    rcases hh2 : ys[j] with ⟨b1, b2, b3, b4⟩
    rw [Bool.eq_iff_iff]; simp [and_assoc]
   have HXY := Lib.hid hxy
   clear hxy
   generalize hg0 : xs[j].k = x0 at *
   generalize hg1 : xs[j].b = x1 at *
   generalize hg2 : xs[j].c = x2 at *
   generalize hg3 : xs[j].v = x3 at *
   generalize hg4 : ys[j].k = y0 at *
   generalize hg5 : ys[j].b = y1 at *
   generalize hg6 : ys[j].c = y2 at *
   generalize hg7 : ys[j].v = y3 at *
   clear hg0 hg1 hg2 hg3 hg4 hg5 hg6 hg7
   have hgd := Tryz.eqGuardType63
   by_cases hb : x0 = y0 ∧ x1 = y1 ∧ x2 = y2 ∧ x3 = y3
   ·obtain ⟨rfl, rfl, rfl, rfl⟩ := hb
    go_wp2_with fail
    go_quiet (fail)
    go_wp2
    go_roundg (gk - 1)
    case measure => omega
    case rel =>
     refine ⟨j + 1, by omega, by go_num, ⟨_, rfl⟩, ?_⟩
     have h1 := HXY.out
     simp at h1
     rw [List.take_succ_eq_append_getElem hjx, List.take_succ_eq_append_getElem hjy, HT.out, h1]
   ·have hd : xs ≠ ys := by
     intro h
     subst h
     have := HXY.out
     simp at this
     exact hb (by simp [this])
    have HD := Lib.hid hd
    clear hd
    have hc : x0 ≠ y0 ∨ (x0 = y0 ∧ x1 ≠ y1) ∨ (x0 = y0 ∧ x1 = y1 ∧ x2 ≠ y2) ∨ (x0 = y0 ∧ x1 = y1 ∧ x2 = y2 ∧ x3 ≠ y3) := by omega
    clear hb HXY
    rcases hc with h0 | ⟨rfl, h0⟩ | ⟨rfl, rfl, h0⟩ | ⟨rfl, rfl, rfl, h0⟩
    all_goals
     go_wp2_with fail
     go_quiet (fail)
     go_wp2
     go_ret
     exact ⟨by simp [HD.out], k + nq, by rw [World.drewN_drewN]⟩
  ·obtain rfl : j = n := by omega
   go_wp2
   go_ret
   have : xs = ys := by
    have := HT.out
    rwa [List.take_of_length_le (by rw [HLX.out]; omega), List.take_of_length_le (by rw [HLY.out]; omega)] at this
   exact ⟨by simp [this], k, rfl⟩
 ·have hd : xs ≠ ys := fun h => hnm (by subst h; have := HLX.out; have := HLY.out; omega)
  have hne : ((n : Int) != (m : Int)) = true := by rw [bne_iff_ne]; omega
  go_enter Tryz.func70, Tryz.ntmps70
  go_wp2
  go_ret
  exact ⟨by simp [hd], 0, rfl⟩
end Go.Proofs.YtgcfdjcpcclcjaaGreat
namespace Go.Kn
open Go Go.RowKit
def kAt (x i : Nat) : UInt8 := UInt8.ofNat (x + 3 * i)
def kBlk (x : Nat) : List UInt8 := (List.range 64).map (kAt x)
def kBlkP (x t : Nat) : List UInt8 := (List.range 64).map fun k => if k < t then kAt x k else 0
@[simp] theorem kBlkP_length (x t : Nat) : (kBlkP x t).length = 64 := by simp [kBlkP]
@[simp] theorem kBlk_length (x : Nat) : (kBlk x).length = 64 := by simp [kBlk]
/-- an item of kind z, the i-th -/
def kIt (z f : Int) (i : Nat) : It :=
 if z % 6 = 1 ∨ z % 6 = 5 then ⟨1 + z % 6, (f % 1000 + i) % 8, 1 + (f % 1000 + i) % 3, 0⟩
 else if z % 6 = 2 then ⟨3, 0, 0, 1 + (f % 1000 + i)⟩
 else if z % 6 = 3 then ⟨4, (f % 1000 + i) % 8, 0, 20 + (f % 1000 + i)⟩
 else ⟨1 + z % 6, (f % 1000 + i) % 8, 0, 0⟩
def kBl (z f : Int) (i : Nat) : List (List UInt8) := if z % 6 = 0 ∨ z % 6 = 3 ∨ z % 6 = 4 then [kBlk (f % 1000 + i).toNat] else []
def kIts (zs : List Int) (f : Int) : Nat → List It
 | 0 => []
 | i + 1 => kIts zs f i ++ [kIt (zs.getD i 0) f i]
def kBls (zs : List Int) (f : Int) : Nat → List (List UInt8)
 | 0 => []
 | i + 1 => kBls zs f i ++ kBl (zs.getD i 0) f i
def kItems (zs : List Int) (f : Int) : List It := if zs.length = 0 then [⟨3, 0, 0, 1⟩] else kIts zs f (min zs.length 6)
def kBlocks (zs : List Int) (f : Int) : List (List UInt8) := kBls zs f (min zs.length 6)
theorem six (z : Int) : z % 6 = 0 ∨ z % 6 = 1 ∨ z % 6 = 2 ∨ z % 6 = 3 ∨ z % 6 = 4 ∨ z % 6 = 5 := by omega
end Go.Kn
namespace Go.Kn
open Go Go.RowKit
/-- a record as it is laid on a disk -/
structure KR where
 kinds : List Int
 fill : Int
 skew : Int
 twist : Int
 up : Int
def kMount (p : Ps) (r : KR) : Int := max (p.m + (r.up + 3) % 7 - 3) 1
def kLsn (p : Ps) (r : KR) : Int := max (p.l + (r.skew + 2) % 5 - 2) 1
def kPrev (p : Ps) (r : KR) : Int := (p.p + r.twist % 3) % 4294967296
def kMade (p : Ps) (r : KR) : Rc := ⟨kMount p r, kLsn p r, kPrev p r, kItems r.kinds r.fill, kBlocks r.kinds r.fill⟩
structure KR.Wf (r : KR) : Prop where
 kinds : ∀ z ∈ r.kinds, (Lit.int .i64 z).wf = true
 fill : (Lit.int .i64 r.fill).wf = true
 twist : (Lit.int .i64 r.twist).wf = true
 skew : -1000 ≤ r.skew ∧ r.skew ≤ 1000
 up : -1000 ≤ r.up ∧ r.up ≤ 1000
structure Ps.Wf (p : Ps) : Prop where
 m : -1000000000000 ≤ p.m ∧ p.m ≤ 1000000000000
 l : -1000000000000 ≤ p.l ∧ p.l ≤ 1000000000000
 p : -1000000000000 ≤ p.p ∧ p.p ≤ 1000000000000
end Go.Kn
namespace Go.Kn
open Go Go.RowKit
instance : DecidableEq Rc := fun a b => by
 rcases a with ⟨a1, a2, a3, a4, a5⟩
 rcases b with ⟨b1, b2, b3, b4, b5⟩
 rw [Rc.mk.injEq]
 exact inferInstance
end Go.Kn
namespace Go.Proofs.YtgcfdjcpcclcjaaGreat
open Go Go.RowKit Go.Kn
set_option maxRecDepth 100000 in
set_option maxHeartbeats 8000000 in
theorem alike_blocks_any (A : Option Addr) (n c : Nat) (xs : List (List UInt8)) (B : Option Addr) (m d : Nat) (ys : List (List UInt8)) (w : World) (hx : Blks w A n c xs) (hy : Blks w B m d ys) :
  Calls Tryz.prog 71 #[.slice A n c, .slice B m d] w fun e w' => e = .returned (.bool (decide (xs = ys))) ∧ ∃ k, w' = w.drewN k := by
 have hlx := hx.len
 have hly := hy.len
 have hcm := hx.cm
 have hcl := hx.le
 have hdm := hy.cm
 have hdl := hy.le
 unfold maxLen at hcm hdm
 have HX := Lib.hid hx
 have HY := Lib.hid hy
 have HLX := Lib.hid hlx
 have HLY := Lib.hid hly
 clear hx hy hlx hly
 by_cases hnm : n = m
 ·subst hnm
  go_enter Tryz.func71, Tryz.ntmps71
  go_wp2_with fail
  go_loopg [5] n (fun r i wr => ∃ j : Nat, j + r = n ∧ i = .int .i64 j ∧ (∃ k, wr = w.drewN k) ∧ xs.take j = ys.take j)
  case atStart => exact ⟨0, by omega, rfl, ⟨0, rfl⟩, by simp⟩
  obtain ⟨j, hj, rfl, ⟨k, hwk⟩, htk⟩ := hrel
  have HWK := Lib.hid hwk
  have HT := Lib.hid htk
  clear htk
  by_cases hlt : j < n
  ·have hjx : j < xs.length := by rw [HLX.out]; exact hlt
   have hjy : j < ys.length := by rw [HLY.out]; exact hlt
   obtain ⟨ga, oa, Ax, nx, cx, rfl, p0', hbx⟩ := HX.out.at_ j hlt
   obtain ⟨gb, ob, Ay, ny, cy, rfl, q0', hby⟩ := HY.out.at_ j hlt
   have p0 : wr.cell? ⟨ga, oa + j, none⟩ = some (.slice Ax nx cx) := by rw [hwk]; exact p0'
   have q0 : wr.cell? ⟨gb, ob + j, none⟩ = some (.slice Ay ny cy) := by rw [hwk]; exact q0'
   have HBX := Lib.hid hbx
   have HBY := Lib.hid hby
   have hlt2 : (j : Int) < (n : Int) := by omega
   have hge : 0 ≤ (j : Int) := by omega
   have htn : ((j : Int)).toNat = j := by omega
   clear hbx hby p0' q0' hwk
   generalize hgx : xs[j] = x at *
   generalize hgy : ys[j] = y at *
   have HGX := Lib.hid hgx
   have HGY := Lib.hid hgy
   clear hgx hgy
   obtain ⟨q, hq⟩ : ∃ q, decide (x = y) = q := ⟨_, rfl⟩
   have HQ := Lib.hid hq
   have HC : Hid (∀ V, (∃ m, V = w.drewN m) → Calls Tryz.prog 48 #[.slice Ax nx cx, .slice Ay ny cy] V fun e w' => e = .returned (.bool q) ∧ ∃ k, w' = V.drewN k) := Lib.hid (fun V hV => by
    obtain ⟨m, rfl⟩ := hV
    have := alike_bytes_any Ax nx cx x Ay ny cy y (w.drewN m) (HBX.out.drewN m) (HBY.out.drewN m)
    rw [hq] at this
    exact this)
   clear hq
   go_wp2_with fail
   go_quiet ((go_at_call 48; exact Calls.quiet_of (HC.out _ ⟨_, by rw [HWK.out, World.drewN_drewN]⟩)))
   cases q
   ·go_wp2
    go_ret
    have hd : xs ≠ ys := by
     intro h
     subst h
     have h1 := HGX.out
     rw [HGY.out] at h1
     subst h1
     have := HQ.out
     simp at this
    exact ⟨by simp [hd], k + nq, by rw [HWK.out, World.drewN_drewN]⟩
   ·go_wp2
    go_roundg (gk - 1)
    case measure => omega
    case rel =>
     refine ⟨j + 1, by omega, by go_num, ⟨k + nq, by rw [HWK.out, World.drewN_drewN]⟩, ?_⟩
     have h1 := of_decide_eq_true HQ.out
     rw [List.take_succ_eq_append_getElem hjx, List.take_succ_eq_append_getElem hjy, HT.out, HGX.out, HGY.out, h1]
  ·obtain rfl : j = n := by omega
   clear hwk
   go_wp2
   go_ret
   have : xs = ys := by
    have := HT.out
    rwa [List.take_of_length_le (by rw [HLX.out]; omega), List.take_of_length_le (by rw [HLY.out]; omega)] at this
   exact ⟨by simp [this], k, HWK.out⟩
 ·have hd : xs ≠ ys := fun h => hnm (by subst h; have := HLX.out; have := HLY.out; omega)
  have hne : ((n : Int) != (m : Int)) = true := by rw [bne_iff_ne]; omega
  go_enter Tryz.func71, Tryz.ntmps71
  go_wp2
  go_ret
  exact ⟨by simp [hd], 0, rfl⟩
end Go.Proofs.YtgcfdjcpcclcjaaGreat
namespace Go.Kn
open Go Go.RowKit
/-- a disk with power, of which nothing is held -/
structure Dk.Live (d : Dk) : Prop where
 off : d.off = false
 fuse : d.fuse = -1
theorem Dk.Live.gone {d : Dk} (h : d.Live) : d.gone = false := by unfold Dk.gone; rw [h.off, h.fuse]; rfl
theorem Dk.Live.act {d : Dk} (h : d.Live) : d.act.Live := by
 have hg := h.gone
 refine ⟨hg, ?_⟩
 unfold Dk.act
 simp only [hg, Bool.false_eq_true, if_false, h.fuse]
 rfl
theorem Dk.Live.write {d : Dk} (h : d.Live) (a : Int) (b : List UInt8) : (d.write a b).1.Live := by
 unfold Dk.write
 split
 ·split
  ·exact h.act
  ·exact ⟨h.act.off, h.act.fuse⟩
 ·exact h
theorem Dk.Live.wrs {d : Dk} (h : d.Live) (a : Int) (b : List UInt8) : ∀ i, (d.wrs a b i).Live
 | 0 => h
 | i + 1 => (Dk.Live.wrs h a b i).write _ _
theorem Dk.Live.flush {d : Dk} (h : d.Live) : d.flush = (d.flushed, 0) ∧ d.flushed.Live ∧ d.flushed.held = [] := by
 refine ⟨?_, ⟨h.act.off, h.act.fuse⟩, rfl⟩
 unfold Dk.flush
 rw [h.gone]
 rfl
theorem Dk.Live.puts {d : Dk} (h : d.Live) (a : Int) (b : List UInt8) : (d.puts a b).Live ∧ (d.puts a b).held = [] := by
 unfold Dk.puts
 rw [(h.wrs a b _).flush.1]
 exact (h.wrs a b _).flush.2
/-- records to be laid, in the world -/
structure Krs (w : World) (A : Option Addr) (n c : Nat) (l : List KR) (ss : List (Option Addr × Nat × Nat)) : Prop where
 len : l.length = n
 sl : ss.length = n
 le : n ≤ c
 cm : c ≤ maxLen
 at_ : 0 < n → ∃ g o, A = some ⟨g, o, none⟩ ∧ ∀ i (h : i < l.length) (h2 : i < ss.length), w.cell? ⟨g, o + i * 5, none⟩ = some (slv ss[i]) ∧ w.cell? ⟨g, o + i * 5 + 1, none⟩ = some (.int .i64 l[i].fill) ∧ w.cell? ⟨g, o + i * 5 + 2, none⟩ = some (.int .i64 l[i].skew) ∧ w.cell? ⟨g, o + i * 5 + 3, none⟩ = some (.int .i64 l[i].twist) ∧ w.cell? ⟨g, o + i * 5 + 4, none⟩ = some (.int .i64 l[i].up)
 ks : ∀ i (h : i < l.length) (h2 : i < ss.length), Ins w ss[i].1 ss[i].2.1 ss[i].2.2 l[i].kinds
/-- records laid one behind the other: the place behind them, the disk -/
def logRun (cf : Cf) : List KR → Ps → Dk → Ps × Dk
 | [], q, d => (q, d)
 | r :: rs, q, d => match encRc (kMade q r) with
  | none => (q, d)
  | some (b, s) => if cf.l - 1 < q.o + ((b.length / 64 : Nat) : Int) then (q, d) else logRun cf rs ⟨q.s, q.o + ((b.length / 64 : Nat) : Int), (kMade q r).n + 1, (s : Nat), (kMade q r).m⟩ (d.puts (cf.at_ q.s + q.o) b)
structure PsOk (cf : Cf) (q : Ps) : Prop where
 wf : q.Wf
 s : 0 ≤ q.s ∧ q.s ≤ cf.s - 1
 o : 0 ≤ q.o ∧ q.o ≤ 64
theorem PsOk.at_ {cf : Cf} {q : Ps} (h : PsOk cf q) (hc : cf.Ok) : 0 ≤ cf.at_ q.s ∧ cf.at_ q.s ≤ 100000 := by
 obtain ⟨m1, m2⟩ := Cf.prod cf hc q.s h.s.1 (by have := h.s.2; omega)
 have h1 := rln_bounds hc
 have h2 := pgs_bounds hc
 unfold Cf.at_
 rw [if_pos h.s]
 omega
theorem enc_some {x : Rc} {b : List UInt8} {s : Nat} (h : encRc x = some (b, s)) : rcMay x = true ∧ b = rcBytes x ∧ s = rcSum x ∧ b.length = 64 * (1 + x.bl.length) ∧ x.bl.length ≤ 6 ∧ (1 ≤ x.m ∧ x.m ≤ 2147483647) ∧ (1 ≤ x.n ∧ x.n ≤ 2147483647) ∧ s < 4294967296 := by
 unfold encRc at h
 split at h
 ·rename_i hm
  injection h with h
  injection h with h1 h2
  subst h1 h2
  obtain ⟨⟨q1, q2, q3, q4, q5⟩, q6, q7, q8⟩ := rcMay_iff.1 hm
  refine ⟨hm, rfl, rfl, rcBytes_length hm, ?_, q1, q2, csum_lt _⟩
  rw [q7]
  have : loads x.its ≤ x.its.length := List.length_filter_le _ _
  omega
 ·cases h
theorem PsOk.next {cf : Cf} {q : Ps} (h : PsOk cf q) (hc : cf.Ok) {r : KR} {b : List UInt8} {s : Nat} (he : encRc (kMade q r) = some (b, s)) (hn : ¬ cf.l - 1 < q.o + ((b.length / 64 : Nat) : Int)) : PsOk cf ⟨q.s, q.o + ((b.length / 64 : Nat) : Int), (kMade q r).n + 1, (s : Nat), (kMade q r).m⟩ := by
 obtain ⟨_, _, _, _, _, h1, h2, h3⟩ := enc_some he
 have hl := hc.2.2
 have ho := h.o
 exact ⟨⟨by show -1000000000000 ≤ (kMade q r).m ∧ (kMade q r).m ≤ 1000000000000; omega, by show -1000000000000 ≤ (kMade q r).n + 1 ∧ (kMade q r).n + 1 ≤ 1000000000000; omega, by show -1000000000000 ≤ ((s : Nat) : Int) ∧ ((s : Nat) : Int) ≤ 1000000000000; omega⟩, h.s, by show 0 ≤ q.o + ((b.length / 64 : Nat) : Int) ∧ q.o + ((b.length / 64 : Nat) : Int) ≤ 64; omega⟩
end Go.Kn
namespace Go.Proofs.YtgcfdjcpcclcjaaGreat
open Go Go.RowKit Go.Kn
theorem Duo.head {w0 w : World} {p : PD} {r : RD} {d e : Dk} {b : Nat} {xs ys : List Value} {L : List (Nat × List Value)} {G : List Gs} {F : List (World → Prop)} {w' : World} (h : Duo w0 w p r d e ⟨(b, xs) :: L, G, F⟩) (ho : Kn.Own w' b ys) (hO : Only [b] w w') : Duo w0 w' p r d e ⟨(b, ys) :: L, G, F⟩ := by
 obtain ⟨L0, G0, F0, hw, back⟩ := h.fr
 exact back w' ⟨(b, ys) :: L, G, F⟩ (hw.call1 0 rfl ho hO)
theorem Duo.call {w0 w : World} {p : PD} {r : RD} {d e : Dk} {b : Nat} {xs ys : List Value} {L : List (Nat × List Value)} {G : List Gs} {F : List (World → Prop)} {w' : World} (h : Duo w0 w p r d e ⟨L, G, F⟩) (i : Nat) (hi : L[i]? = some (b, xs)) (ho : Kn.Own w' b ys) (hO : Only [b] w w') : Duo w0 w' p r d e ⟨L.set i (b, ys), G, F⟩ := by
 obtain ⟨L0, G0, F0, hw, back⟩ := h.fr
 have hlt : i < L.length := (List.getElem?_eq_some_iff.1 hi).1
 have h1 := hw.call1 i (p := b) (cs := xs) (by rw [List.getElem?_append_left hlt]; exact hi) ho hO
 rw [List.set_append_left _ _ hlt] at h1
 exact back w' ⟨L.set i (b, ys), G, F⟩ h1
theorem own_set5 {w : World} {b : Nat} {o0 o1 o2 o3 o4 : Value} (h : Kn.Own w b [o0, o1, o2, o3, o4]) (a0 a1 a2 a3 a4 : Value) :
  Kn.Own (((((w.setCell ⟨b, 0, none⟩ a0).setCell ⟨b, 1, none⟩ a1).setCell ⟨b, 2, none⟩ a2).setCell ⟨b, 3, none⟩ a3).setCell ⟨b, 4, none⟩ a4) b [a0, a1, a2, a3, a4] := ((((h.set 0 a0).set 1 a1).set 2 a2).set 3 a3).set 4 a4
theorem only_set5 (w : World) (b : Nat) (a0 a1 a2 a3 a4 : Value) :
  Only [b] w (((((w.setCell ⟨b, 0, none⟩ a0).setCell ⟨b, 1, none⟩ a1).setCell ⟨b, 2, none⟩ a2).setCell ⟨b, 3, none⟩ a3).setCell ⟨b, 4, none⟩ a4) :=
 (((((Only.refl [b] w).set (.inl (by simp)) a0).set (.inl (by simp)) a1).set (.inl (by simp)) a2).set (.inl (by simp)) a3).set (.inl (by simp)) a4
theorem logRun_none {cf : Cf} {r : KR} {rs : List KR} {q : Ps} {d : Dk} (h : encRc (kMade q r) = none) : logRun cf (r :: rs) q d = (q, d) := by unfold logRun; rw [h]
theorem logRun_far {cf : Cf} {r : KR} {rs : List KR} {q : Ps} {d : Dk} {b : List UInt8} {s : Nat} (h : encRc (kMade q r) = some (b, s)) (hf : cf.l - 1 < q.o + ((b.length / 64 : Nat) : Int)) : logRun cf (r :: rs) q d = (q, d) := by
 unfold logRun
 rw [h]
 exact if_pos hf
theorem logRun_go {cf : Cf} {r : KR} {rs : List KR} {q : Ps} {d : Dk} {b : List UInt8} {s : Nat} (h : encRc (kMade q r) = some (b, s)) (hf : ¬ cf.l - 1 < q.o + ((b.length / 64 : Nat) : Int)) :
  logRun cf (r :: rs) q d = logRun cf rs ⟨q.s, q.o + ((b.length / 64 : Nat) : Int), (kMade q r).n + 1, (s : Nat), (kMade q r).m⟩ (d.puts (cf.at_ q.s + q.o) b) := by
 conv => lhs; unfold logRun
 rw [h]
 exact if_neg hf
end Go.Proofs.YtgcfdjcpcclcjaaGreat
namespace Go.Kn
open Go Go.RowKit
theorem decHead_nil : decHead [] = none := by
 unfold decHead decBy
 rw [if_neg]
 intro h
 unfold encHead at h
 split at h
 ·injection h with h
  have := congrArg List.length h
  rw [sealed_length _ (headRow_length _)] at this
  simp at this
 ·cases h
theorem scanB_no {d : Dk} {c : Cf} {own : Bool} {p : Ps} (h : ¬ ((0 ≤ p.s ∧ p.s ≤ c.s - 1) ∧ 0 ≤ p.o ∧ p.o < c.l)) : scanB d c own p = (p, false, 0) := if_neg h
theorem scanB_off {d : Dk} {c : Cf} {own : Bool} {p : Ps} (h : (0 ≤ p.s ∧ p.s ≤ c.s - 1) ∧ 0 ≤ p.o ∧ p.o < c.l) (h0 : 0 < p.o) : scanB d c own p = (p, true, 0) := by unfold scanB; rw [if_pos h, if_pos h0]
theorem scanB_err {d : Dk} {c : Cf} {own : Bool} {p : Ps} (h : (0 ≤ p.s ∧ p.s ≤ c.s - 1) ∧ 0 ≤ p.o ∧ p.o < c.l) (h0 : ¬ 0 < p.o) (he : d.err (c.at_ p.s) ≠ 0) : scanB d c own p = (p, false, d.err (c.at_ p.s)) := by unfold scanB; rw [if_pos h, if_neg h0, if_neg he]
theorem scanB_none {d : Dk} {c : Cf} {own : Bool} {p : Ps} (h : (0 ≤ p.s ∧ p.s ≤ c.s - 1) ∧ 0 ≤ p.o ∧ p.o < c.l) (h0 : ¬ 0 < p.o) (he : d.err (c.at_ p.s) = 0) (hd : decHead (d.read (c.at_ p.s)) = none) : scanB d c own p = (p, false, 0) := by unfold scanB; rw [if_pos h, if_neg h0, if_pos he, hd]
theorem scanB_some {d : Dk} {c : Cf} {own : Bool} {p : Ps} {x : It} (h : (0 ≤ p.s ∧ p.s ≤ c.s - 1) ∧ 0 ≤ p.o ∧ p.o < c.l) (h0 : ¬ 0 < p.o) (he : d.err (c.at_ p.s) = 0) (hd : decHead (d.read (c.at_ p.s)) = some x) : scanB d c own p = if (own || headFits (some x) p.s p.l p.p p.m) = true then (⟨p.s, 1, x.c, x.v, x.b⟩, true, 0) else (p, false, 0) := by unfold scanB; rw [if_pos h, if_neg h0, if_pos he, hd]
end Go.Kn
namespace Go.Proofs.YtgcfdjcpcclcjaaGreat
open Go Go.RowKit Go.Kn
theorem field_cfg2 (b s l : Int) (w : World) : (Instr.field 25 (.agg #[.int .i64 b, .int .i64 s, .int .i64 l]) 2).run Tryz.prog w = .ok (.int .i64 l) w := by kernel_rfl
def BegSays (w0 wb : World) (S D gb : Nat) (pp : Ps) (own : Bool) (e : Ps) (L : List (Nat × List Value)) (G : List Gs) (F : List (World → Prop)) (x : Ps × Bool × Int) (en : Ending) (w' : World) : Prop :=
 en = .returned (.tuple #[.agg #[.int .i64 x.1.s, .int .i64 x.1.o, .int .i64 x.1.l, .int .i64 x.1.p, .int .i64 x.1.m], .bool x.2.1]) ∧ Wk w0 wb w' ((S, SB D gb pp own e x.2.2) :: L) G F
set_option maxRecDepth 100000 in
set_option maxHeartbeats 8000000 in
theorem scan_begin_any {wb : World} (w0 w : World) (S gb : Nat) (pd : PD) (d : Dk) (cf : Cf) (p : Ps) (own : Bool) (e : Ps) (er : Int) (L : List (Nat × List Value)) (G : List Gs) (F : List (World → Prop))
  (hw : Wk w0 wb w ((S, SB pd.D gb p own e er) :: L) G F) (hd : DkIn pd d L) (hg : (fun W => GeoAt W gb cf.b cf.s cf.l) ∈ F) (hc : cf.Ok) :
  Calls Tryz.prog 152 #[.pointer (some ⟨S, 0, none⟩)] w (BegSays w0 wb S pd.D gb p own e L G F (scanB d cf own p)) := by
 have hres : Tryz.f152.results = #[.cell 2 32, .tmp 3] := by kernel_rfl
 have HRES := Lib.hid hres
 have HG := Lib.hid hg
 have HC := Lib.hid hc
 have HDK := Lib.hid hd
 have hw2 : Wk w0 wb ((w.setCell ⟨S, 13, none⟩ (.int .i64 0)).alloc (.cells #[.int .i64 p.s, .int .i64 p.o, .int .i64 p.l, .int .i64 p.p, .int .i64 p.m] 32)) ((S, SB pd.D gb p own e 0) :: (w.heap.size, [.int .i64 p.s, .int .i64 p.o, .int .i64 p.l, .int .i64 p.p, .int .i64 p.m]) :: L) G F := ((hw.put 0 (p := S) rfl 13 (.int .i64 0)).newB #[.int .i64 p.s, .int .i64 p.o, .int .i64 p.l, .int .i64 p.p, .int .i64 p.m] 32 (by simp)).perm (List.Perm.swap _ _ _) (List.Perm.refl _)
 have HW := Lib.hid hw2
 have hb := hw.boxi 0 rfl
 have c1 := hb.cell 1 (by simp [SB])
 have c2 := hb.cell 2 (by simp [SB])
 have c3 := hb.cell 3 (by simp [SB])
 have c4 := hb.cell 4 (by simp [SB])
 have c5 := hb.cell 5 (by simp [SB])
 have c6 := hb.cell 6 (by simp [SB])
 have c13 := hb.cell 13 (by simp [SB])
 simp only [SB, List.getElem_cons_zero, List.getElem_cons_succ] at c1 c2 c3 c4 c5 c6 c13
 have f13 := hb.frozen 13
 have hlt := hb.lt
 clear hres hg hc hd hw hw2 hb
 go_enter Tryz.func152, Tryz.ntmps152
 go_wp2_with fail
 generalize (w.setCell ⟨S, 13, none⟩ (.int .i64 0)).alloc (.cells #[.int .i64 p.s, .int .i64 p.o, .int .i64 p.l, .int .i64 p.p, .int .i64 p.m] 32) = w1 at *
 generalize w.heap.size = fb at *
 have hfl := field_cfg2 cf.b cf.s cf.l
 have HX7 := Lib.hid HW.out.drew
 refine wp_region_held_drew (S := fun w' => Kn.Own w' fb [.int .i64 p.s, .int .i64 p.o, .int .i64 p.l, .int .i64 p.p, .int .i64 p.m] ∧ w'.cell? ⟨S, 1, none⟩ = some (.pointer (some ⟨gb, 0, none⟩))) (by kernel_rfl) ⟨HX7.out.boxi 1 rfl, by simpa [SB] using (HX7.out.boxi 0 (p := S) rfl).cell 1 (by simp [SB])⟩ (fun hSw7 => ?_)
 generalize w1.drew = v7 at *
 clear HW c1 c2 c3 c4 c5 c6 c13 f13 hlt
 by_cases hk0 : 0 ≤ p.s ∧ p.s ≤ cf.s - 1
 ·by_cases ho1 : p.o < 0
  ·refine Kn.takeS 0 ⟨some 14, _, _, _, _, _⟩ (hy := fun w hSw => by
    (try dsimp only at hSw); have q0 := hSw.1.cell 0 (by simp); have q1 := hSw.1.cell 1 (by simp); have q2 := hSw.2; simp only [List.getElem_cons_zero, List.getElem_cons_succ] at q0 q1
    go_simp
    all_goals (try with_reducible rfl)) ?_
   refine Kn.takeS 1 ⟨some 15, _, _, _, _, _⟩ (hy := fun w hSw => by
    (try dsimp only at hSw); have q0 := hSw.1.cell 0 (by simp); have q1 := hSw.1.cell 1 (by simp); have q2 := hSw.2; simp only [List.getElem_cons_zero, List.getElem_cons_succ] at q0 q1
    go_simp
    all_goals (try with_reducible rfl)) ?_
   refine Kn.takeS 2 ⟨some 16, _, _, _, _, _⟩ (hy := fun w hSw => by
    (try dsimp only at hSw); have q0 := hSw.1.cell 0 (by simp); have q1 := hSw.1.cell 1 (by simp); have q2 := hSw.2; simp only [List.getElem_cons_zero, List.getElem_cons_succ] at q0 q1
    go_simp
    all_goals (try with_reducible rfl)) ?_
   refine Kn.takeS 3 ⟨some 17, _, _, _, _, _⟩ (hy := fun w hSw => by
    (try dsimp only at hSw); have q0 := hSw.1.cell 0 (by simp); have q1 := hSw.1.cell 1 (by simp); have q2 := hSw.2; simp only [List.getElem_cons_zero, List.getElem_cons_succ] at q0 q1
    go_simp
    all_goals (try with_reducible rfl)) ?_
   refine Kn.takeS 4 ⟨some 18, _, _, _, _, _⟩ (hy := fun w hSw => by
    (try dsimp only at hSw); have q0 := hSw.1.cell 0 (by simp); have q1 := hSw.1.cell 1 (by simp); have q2 := hSw.2; simp only [List.getElem_cons_zero, List.getElem_cons_succ] at q0 q1
    go_simp
    all_goals (try with_reducible rfl)) ?_
   refine Kn.takeS 5 ⟨some 19, _, _, _, _, _⟩ (hy := fun w hSw => by
    (try dsimp only at hSw); have q0 := hSw.1.cell 0 (by simp); have q1 := hSw.1.cell 1 (by simp); have q2 := hSw.2; simp only [List.getElem_cons_zero, List.getElem_cons_succ] at q0 q1
    go_simp
    all_goals (try with_reducible rfl)) ?_
   refine Kn.takeR 6 ⟨some 20, _, _, _, _, _⟩ fun K hK => ?_
   go_simp
   refine (geom_has_any gb cf.b cf.s cf.l p.s _ (HX7.out.fact (fun W => GeoAt W gb cf.b cf.s cf.l) HG.out) HC.out).mono ?_
   rintro en vx ⟨rfl, rfl⟩
   rw [decide_eq_true hk0]
   have HX8 := Lib.hid HX7.out
   clear HX7
   refine hK.out _ _ ⟨HX8.out.boxi 1 rfl, by simpa [SB] using (HX8.out.boxi 0 (p := S) rfl).cell 1 (by simp [SB])⟩ (fun hSw8 => ?_)
   clear hK K
   clear hSw7
   refine Kn.takeS 7 ⟨some 21, _, _, _, _, _⟩ (hy := fun w hSw => by
    (try dsimp only at hSw); have q0 := hSw.1.cell 0 (by simp); have q1 := hSw.1.cell 1 (by simp); have q2 := hSw.2; simp only [List.getElem_cons_zero, List.getElem_cons_succ] at q0 q1
    go_simp
    all_goals (try with_reducible rfl)) ?_
   refine Kn.takeS 8 ⟨some 22, _, _, _, _, _⟩ (hy := fun w hSw => by
    (try dsimp only at hSw); have q0 := hSw.1.cell 0 (by simp); have q1 := hSw.1.cell 1 (by simp); have q2 := hSw.2; simp only [List.getElem_cons_zero, List.getElem_cons_succ] at q0 q1
    go_simp
    all_goals (try with_reducible rfl)) ?_
   refine Kn.takeS 9 ⟨some 23, _, _, _, _, _⟩ (hy := fun w hSw => by
    (try dsimp only at hSw); have q0 := hSw.1.cell 0 (by simp); have q1 := hSw.1.cell 1 (by simp); have q2 := hSw.2; simp only [List.getElem_cons_zero, List.getElem_cons_succ] at q0 q1
    go_simp
    all_goals (try with_reducible rfl)) ?_
   refine Kn.takeS 10 ⟨some 24, _, _, _, _, _⟩ (hy := fun w hSw => by
    (try dsimp only at hSw); have q0 := hSw.1.cell 0 (by simp); have q1 := hSw.1.cell 1 (by simp); have q2 := hSw.2; simp only [List.getElem_cons_zero, List.getElem_cons_succ] at q0 q1
    go_simp
    all_goals (try with_reducible rfl)) ?_
   refine Kn.takeS 11 ⟨some 25, _, _, _, _, _⟩ (hy := fun w hSw => by
    (try dsimp only at hSw); have q0 := hSw.1.cell 0 (by simp); have q1 := hSw.1.cell 1 (by simp); have q2 := hSw.2; simp only [List.getElem_cons_zero, List.getElem_cons_succ] at q0 q1
    go_simp
    all_goals (try with_reducible rfl)) ?_
   refine Kn.takeS 12 ⟨some 26, _, _, _, _, _⟩ (hy := fun w hSw => by
    (try dsimp only at hSw); have q0 := hSw.1.cell 0 (by simp); have q1 := hSw.1.cell 1 (by simp); have q2 := hSw.2; simp only [List.getElem_cons_zero, List.getElem_cons_succ] at q0 q1
    go_simp
    all_goals (try with_reducible rfl)) ?_
   refine Kn.takeS 13 ⟨some 27, _, _, _, _, _⟩ (hy := fun w hSw => by
    (try dsimp only at hSw); have q0 := hSw.1.cell 0 (by simp); have q1 := hSw.1.cell 1 (by simp); have q2 := hSw.2; simp only [List.getElem_cons_zero, List.getElem_cons_succ] at q0 q1
    go_simp
    all_goals (try with_reducible rfl)) ?_
   refine Kn.takeN 14 ⟨some 28, _, _, _, _, _⟩ ?_
   refine Kn.takeN 15 ⟨some 29, _, _, _, _, _⟩ ?_
   refine Kn.takeN 16 ⟨some 30, _, _, _, _, _⟩ ?_
   refine Kn.takeN 17 ⟨some 31, _, _, _, _, _⟩ ?_
   refine Kn.takeN 18 ⟨some 32, _, _, _, _, _⟩ ?_
   refine Kn.takeN 19 ⟨some 33, _, _, _, _, _⟩ ?_
   refine Kn.takeN 20 ⟨some 34, _, _, _, _, _⟩ ?_
   refine Kn.takeN 21 ⟨some 35, _, _, _, _, _⟩ ?_
   refine Kn.takeN 22 ⟨some 36, _, _, _, _, _⟩ ?_
   refine Kn.takeS 23 ⟨some 37, _, _, _, _, _⟩ (hy := fun w hSw => by
    (try dsimp only at hSw); have q0 := hSw.1.cell 0 (by simp); have q1 := hSw.1.cell 1 (by simp); have q2 := hSw.2; simp only [List.getElem_cons_zero, List.getElem_cons_succ] at q0 q1
    go_simp
    all_goals (try with_reducible rfl)) ?_
   refine wpAnyH_done (by kernel_rfl) ?_ _
   clear hSw8
   have HSB := Lib.hid (scanB_no (d := d) (c := cf) (own := own) (p := p) (by omega))
   have bz := HX8.out.boxi 1 rfl
   obtain ⟨y0, y1, y2, y3, y4⟩ := Kn.own5 bz
   have z0 := bz.frozen 0
   have z1 := bz.frozen 1
   have z2 := bz.frozen 2
   have z3 := bz.frozen 3
   have z4 := bz.frozen 4
   have HEND := Lib.hid ((HX8.out.call1 1 rfl (own_set5 bz (.int .i64 p.s) (.int .i64 p.o) (.int .i64 p.l) (.int .i64 p.p) (.int .i64 p.m)) (only_set5 _ fb _ _ _ _ _)).sub (L' := (S, SB pd.D gb p own e 0) :: L) (F' := F) (by simp) (by intro f hf; simp [hf]))
   clear bz HX8
   go_wp2
   (try simp only [Exit.inBlock, Exit.then])
   refine bodyPost_ret (v := .tuple #[.agg #[.int .i64 p.s, .int .i64 p.o, .int .i64 p.l, .int .i64 p.p, .int .i64 p.m], .bool false]) ?_ rfl ?_
   ·simp only [results, HRES.out]
    go_simp
   ·rw [HSB.out]
    exact ⟨rfl, HEND.out⟩
  ·by_cases ho2 : cf.l ≤ p.o
   ·have ho3 : p.o ≥ cf.l := ho2
    refine Kn.takeS 0 ⟨some 14, _, _, _, _, _⟩ (hy := fun w hSw => by
     (try dsimp only at hSw); have q0 := hSw.1.cell 0 (by simp); have q1 := hSw.1.cell 1 (by simp); have q2 := hSw.2; simp only [List.getElem_cons_zero, List.getElem_cons_succ] at q0 q1
     go_simp
     all_goals (try with_reducible rfl)) ?_
    refine Kn.takeS 1 ⟨some 15, _, _, _, _, _⟩ (hy := fun w hSw => by
     (try dsimp only at hSw); have q0 := hSw.1.cell 0 (by simp); have q1 := hSw.1.cell 1 (by simp); have q2 := hSw.2; simp only [List.getElem_cons_zero, List.getElem_cons_succ] at q0 q1
     go_simp
     all_goals (try with_reducible rfl)) ?_
    refine Kn.takeS 2 ⟨some 16, _, _, _, _, _⟩ (hy := fun w hSw => by
     (try dsimp only at hSw); have q0 := hSw.1.cell 0 (by simp); have q1 := hSw.1.cell 1 (by simp); have q2 := hSw.2; simp only [List.getElem_cons_zero, List.getElem_cons_succ] at q0 q1
     go_simp
     all_goals (try with_reducible rfl)) ?_
    refine Kn.takeS 3 ⟨some 17, _, _, _, _, _⟩ (hy := fun w hSw => by
     (try dsimp only at hSw); have q0 := hSw.1.cell 0 (by simp); have q1 := hSw.1.cell 1 (by simp); have q2 := hSw.2; simp only [List.getElem_cons_zero, List.getElem_cons_succ] at q0 q1
     go_simp
     all_goals (try with_reducible rfl)) ?_
    refine Kn.takeS 4 ⟨some 18, _, _, _, _, _⟩ (hy := fun w hSw => by
     (try dsimp only at hSw); have q0 := hSw.1.cell 0 (by simp); have q1 := hSw.1.cell 1 (by simp); have q2 := hSw.2; simp only [List.getElem_cons_zero, List.getElem_cons_succ] at q0 q1
     go_simp
     all_goals (try with_reducible rfl)) ?_
    refine Kn.takeS 5 ⟨some 19, _, _, _, _, _⟩ (hy := fun w hSw => by
     (try dsimp only at hSw); have q0 := hSw.1.cell 0 (by simp); have q1 := hSw.1.cell 1 (by simp); have q2 := hSw.2; simp only [List.getElem_cons_zero, List.getElem_cons_succ] at q0 q1
     go_simp
     all_goals (try with_reducible rfl)) ?_
    refine Kn.takeR 6 ⟨some 20, _, _, _, _, _⟩ fun K hK => ?_
    go_simp
    refine (geom_has_any gb cf.b cf.s cf.l p.s _ (HX7.out.fact (fun W => GeoAt W gb cf.b cf.s cf.l) HG.out) HC.out).mono ?_
    rintro en vx ⟨rfl, rfl⟩
    rw [decide_eq_true hk0]
    have HX8 := Lib.hid HX7.out
    clear HX7
    refine hK.out _ _ ⟨HX8.out.boxi 1 rfl, by simpa [SB] using (HX8.out.boxi 0 (p := S) rfl).cell 1 (by simp [SB])⟩ (fun hSw8 => ?_)
    clear hK K
    clear hSw7
    refine Kn.takeS 7 ⟨some 21, _, _, _, _, _⟩ (hy := fun w hSw => by
     (try dsimp only at hSw); have q0 := hSw.1.cell 0 (by simp); have q1 := hSw.1.cell 1 (by simp); have q2 := hSw.2; simp only [List.getElem_cons_zero, List.getElem_cons_succ] at q0 q1
     go_simp
     all_goals (try with_reducible rfl)) ?_
    refine Kn.takeS 8 ⟨some 22, _, _, _, _, _⟩ (hy := fun w hSw => by
     (try dsimp only at hSw); have q0 := hSw.1.cell 0 (by simp); have q1 := hSw.1.cell 1 (by simp); have q2 := hSw.2; simp only [List.getElem_cons_zero, List.getElem_cons_succ] at q0 q1
     go_simp
     all_goals (try with_reducible rfl)) ?_
    refine Kn.takeS 9 ⟨some 23, _, _, _, _, _⟩ (hy := fun w hSw => by
     (try dsimp only at hSw); have q0 := hSw.1.cell 0 (by simp); have q1 := hSw.1.cell 1 (by simp); have q2 := hSw.2; simp only [List.getElem_cons_zero, List.getElem_cons_succ] at q0 q1
     go_simp
     all_goals (try with_reducible rfl)) ?_
    refine Kn.takeS 10 ⟨some 24, _, _, _, _, _⟩ (hy := fun w hSw => by
     (try dsimp only at hSw); have q0 := hSw.1.cell 0 (by simp); have q1 := hSw.1.cell 1 (by simp); have q2 := hSw.2; simp only [List.getElem_cons_zero, List.getElem_cons_succ] at q0 q1
     go_simp
     all_goals (try with_reducible rfl)) ?_
    refine Kn.takeS 11 ⟨some 25, _, _, _, _, _⟩ (hy := fun w hSw => by
     (try dsimp only at hSw); have q0 := hSw.1.cell 0 (by simp); have q1 := hSw.1.cell 1 (by simp); have q2 := hSw.2; simp only [List.getElem_cons_zero, List.getElem_cons_succ] at q0 q1
     go_simp
     all_goals (try with_reducible rfl)) ?_
    refine Kn.takeS 12 ⟨some 26, _, _, _, _, _⟩ (hy := fun w hSw => by
     (try dsimp only at hSw); have q0 := hSw.1.cell 0 (by simp); have q1 := hSw.1.cell 1 (by simp); have q2 := hSw.2; simp only [List.getElem_cons_zero, List.getElem_cons_succ] at q0 q1
     go_simp
     all_goals (try with_reducible rfl)) ?_
    refine Kn.takeS 13 ⟨some 27, _, _, _, _, _⟩ (hy := fun w hSw => by
     (try dsimp only at hSw); have q0 := hSw.1.cell 0 (by simp); have q1 := hSw.1.cell 1 (by simp); have q2 := hSw.2; simp only [List.getElem_cons_zero, List.getElem_cons_succ] at q0 q1
     go_simp
     all_goals (try with_reducible rfl)) ?_
    refine Kn.takeS 14 ⟨some 28, _, _, _, _, _⟩ (hy := fun w hSw => by
     (try dsimp only at hSw); have q0 := hSw.1.cell 0 (by simp); have q1 := hSw.1.cell 1 (by simp); have q2 := hSw.2; simp only [List.getElem_cons_zero, List.getElem_cons_succ] at q0 q1
     go_simp
     all_goals (try with_reducible rfl)) ?_
    refine Kn.takeS 15 ⟨some 29, _, _, _, _, _⟩ (hy := fun w hSw => by
     (try dsimp only at hSw); have q0 := hSw.1.cell 0 (by simp); have q1 := hSw.1.cell 1 (by simp); have q2 := hSw.2; simp only [List.getElem_cons_zero, List.getElem_cons_succ] at q0 q1
     go_simp
     all_goals (try with_reducible rfl)) ?_
    refine Kn.takeS 16 ⟨some 30, _, _, _, _, _⟩ (hy := fun w hSw => by
     (try dsimp only at hSw); have q0 := hSw.1.cell 0 (by simp); have q1 := hSw.1.cell 1 (by simp); have q2 := hSw.2; simp only [List.getElem_cons_zero, List.getElem_cons_succ] at q0 q1
     go_simp
     all_goals (try with_reducible rfl)) ?_
    refine Kn.takeS 17 ⟨some 31, _, _, _, _, _⟩ (hy := fun w hSw => by
     (try dsimp only at hSw); have q0 := hSw.1.cell 0 (by simp); have q1 := hSw.1.cell 1 (by simp); have q2 := hSw.2; simp only [List.getElem_cons_zero, List.getElem_cons_succ] at q0 q1
     go_simp
     all_goals (try with_reducible rfl)) ?_
    refine Kn.takeS 18 ⟨some 32, _, _, _, _, _⟩ (hy := fun w hSw => by
     (try dsimp only at hSw); have q0 := hSw.1.cell 0 (by simp); have q1 := hSw.1.cell 1 (by simp); have q2 := hSw.2; simp only [List.getElem_cons_zero, List.getElem_cons_succ] at q0 q1
     go_simp
     all_goals (try with_reducible rfl)) ?_
    refine Kn.takeS 19 ⟨some 33, _, _, _, _, _⟩ (hy := fun w hSw => by
     (try dsimp only at hSw); have q0 := hSw.1.cell 0 (by simp); have q1 := hSw.1.cell 1 (by simp); have q2 := hSw.2; simp only [List.getElem_cons_zero, List.getElem_cons_succ] at q0 q1
     go_simp
     all_goals (try with_reducible rfl)) ?_
    refine Kn.takeR 20 ⟨some 34, _, _, _, _, _⟩ fun K hK => ?_
    go_simp
    refine (geom_config_any gb cf.b cf.s cf.l _ (HX8.out.fact (fun W => GeoAt W gb cf.b cf.s cf.l) HG.out)).mono ?_
    rintro en v9 ⟨rfl, hO⟩
    have HX9 := Lib.hid (HX8.out.keep0 hO)
    clear hO HX8
    refine hK.out _ _ ⟨HX9.out.boxi 1 rfl, by simpa [SB] using (HX9.out.boxi 0 (p := S) rfl).cell 1 (by simp [SB])⟩ (fun hSw9 => ?_)
    clear hK K
    clear hSw8
    refine Kn.takeS 21 ⟨some 35, _, _, _, _, _⟩ (hy := fun w hSw => by
     (try dsimp only at hSw); have q0 := hSw.1.cell 0 (by simp); have q1 := hSw.1.cell 1 (by simp); have q2 := hSw.2; simp only [List.getElem_cons_zero, List.getElem_cons_succ] at q0 q1
     go_simp
     all_goals (try with_reducible rfl)) ?_
    refine Kn.takeS 22 ⟨some 36, _, _, _, _, _⟩ (hy := fun w hSw => by
     (try dsimp only at hSw); have q0 := hSw.1.cell 0 (by simp); have q1 := hSw.1.cell 1 (by simp); have q2 := hSw.2; simp only [List.getElem_cons_zero, List.getElem_cons_succ] at q0 q1
     go_simp
     all_goals (try with_reducible rfl)) ?_
    refine Kn.takeS 23 ⟨some 37, _, _, _, _, _⟩ (hy := fun w hSw => by
     (try dsimp only at hSw); have q0 := hSw.1.cell 0 (by simp); have q1 := hSw.1.cell 1 (by simp); have q2 := hSw.2; simp only [List.getElem_cons_zero, List.getElem_cons_succ] at q0 q1
     go_simp
     all_goals (try with_reducible rfl)) ?_
    refine wpAnyH_done (by kernel_rfl) ?_ _
    clear hSw9
    have HSB := Lib.hid (scanB_no (d := d) (c := cf) (own := own) (p := p) (by omega))
    have bz := HX9.out.boxi 1 rfl
    obtain ⟨y0, y1, y2, y3, y4⟩ := Kn.own5 bz
    have z0 := bz.frozen 0
    have z1 := bz.frozen 1
    have z2 := bz.frozen 2
    have z3 := bz.frozen 3
    have z4 := bz.frozen 4
    have HEND := Lib.hid ((HX9.out.call1 1 rfl (own_set5 bz (.int .i64 p.s) (.int .i64 p.o) (.int .i64 p.l) (.int .i64 p.p) (.int .i64 p.m)) (only_set5 _ fb _ _ _ _ _)).sub (L' := (S, SB pd.D gb p own e 0) :: L) (F' := F) (by simp) (by intro f hf; simp [hf]))
    clear bz HX9
    go_wp2
    (try simp only [Exit.inBlock, Exit.then])
    refine bodyPost_ret (v := .tuple #[.agg #[.int .i64 p.s, .int .i64 p.o, .int .i64 p.l, .int .i64 p.p, .int .i64 p.m], .bool false]) ?_ rfl ?_
    ·simp only [results, HRES.out]
     go_simp
    ·rw [HSB.out]
     exact ⟨rfl, HEND.out⟩
   ·refine Kn.takeS 0 ⟨some 14, _, _, _, _, _⟩ (hy := fun w hSw => by
     (try dsimp only at hSw); have q0 := hSw.1.cell 0 (by simp); have q1 := hSw.1.cell 1 (by simp); have q2 := hSw.2; simp only [List.getElem_cons_zero, List.getElem_cons_succ] at q0 q1
     go_simp
     all_goals (try with_reducible rfl)) ?_
    refine Kn.takeS 1 ⟨some 15, _, _, _, _, _⟩ (hy := fun w hSw => by
     (try dsimp only at hSw); have q0 := hSw.1.cell 0 (by simp); have q1 := hSw.1.cell 1 (by simp); have q2 := hSw.2; simp only [List.getElem_cons_zero, List.getElem_cons_succ] at q0 q1
     go_simp
     all_goals (try with_reducible rfl)) ?_
    refine Kn.takeS 2 ⟨some 16, _, _, _, _, _⟩ (hy := fun w hSw => by
     (try dsimp only at hSw); have q0 := hSw.1.cell 0 (by simp); have q1 := hSw.1.cell 1 (by simp); have q2 := hSw.2; simp only [List.getElem_cons_zero, List.getElem_cons_succ] at q0 q1
     go_simp
     all_goals (try with_reducible rfl)) ?_
    refine Kn.takeS 3 ⟨some 17, _, _, _, _, _⟩ (hy := fun w hSw => by
     (try dsimp only at hSw); have q0 := hSw.1.cell 0 (by simp); have q1 := hSw.1.cell 1 (by simp); have q2 := hSw.2; simp only [List.getElem_cons_zero, List.getElem_cons_succ] at q0 q1
     go_simp
     all_goals (try with_reducible rfl)) ?_
    refine Kn.takeS 4 ⟨some 18, _, _, _, _, _⟩ (hy := fun w hSw => by
     (try dsimp only at hSw); have q0 := hSw.1.cell 0 (by simp); have q1 := hSw.1.cell 1 (by simp); have q2 := hSw.2; simp only [List.getElem_cons_zero, List.getElem_cons_succ] at q0 q1
     go_simp
     all_goals (try with_reducible rfl)) ?_
    refine Kn.takeS 5 ⟨some 19, _, _, _, _, _⟩ (hy := fun w hSw => by
     (try dsimp only at hSw); have q0 := hSw.1.cell 0 (by simp); have q1 := hSw.1.cell 1 (by simp); have q2 := hSw.2; simp only [List.getElem_cons_zero, List.getElem_cons_succ] at q0 q1
     go_simp
     all_goals (try with_reducible rfl)) ?_
    refine Kn.takeR 6 ⟨some 20, _, _, _, _, _⟩ fun K hK => ?_
    go_simp
    refine (geom_has_any gb cf.b cf.s cf.l p.s _ (HX7.out.fact (fun W => GeoAt W gb cf.b cf.s cf.l) HG.out) HC.out).mono ?_
    rintro en vx ⟨rfl, rfl⟩
    rw [decide_eq_true hk0]
    have HX8 := Lib.hid HX7.out
    clear HX7
    refine hK.out _ _ ⟨HX8.out.boxi 1 rfl, by simpa [SB] using (HX8.out.boxi 0 (p := S) rfl).cell 1 (by simp [SB])⟩ (fun hSw8 => ?_)
    clear hK K
    clear hSw7
    refine Kn.takeS 7 ⟨some 21, _, _, _, _, _⟩ (hy := fun w hSw => by
     (try dsimp only at hSw); have q0 := hSw.1.cell 0 (by simp); have q1 := hSw.1.cell 1 (by simp); have q2 := hSw.2; simp only [List.getElem_cons_zero, List.getElem_cons_succ] at q0 q1
     go_simp
     all_goals (try with_reducible rfl)) ?_
    refine Kn.takeS 8 ⟨some 22, _, _, _, _, _⟩ (hy := fun w hSw => by
     (try dsimp only at hSw); have q0 := hSw.1.cell 0 (by simp); have q1 := hSw.1.cell 1 (by simp); have q2 := hSw.2; simp only [List.getElem_cons_zero, List.getElem_cons_succ] at q0 q1
     go_simp
     all_goals (try with_reducible rfl)) ?_
    refine Kn.takeS 9 ⟨some 23, _, _, _, _, _⟩ (hy := fun w hSw => by
     (try dsimp only at hSw); have q0 := hSw.1.cell 0 (by simp); have q1 := hSw.1.cell 1 (by simp); have q2 := hSw.2; simp only [List.getElem_cons_zero, List.getElem_cons_succ] at q0 q1
     go_simp
     all_goals (try with_reducible rfl)) ?_
    refine Kn.takeS 10 ⟨some 24, _, _, _, _, _⟩ (hy := fun w hSw => by
     (try dsimp only at hSw); have q0 := hSw.1.cell 0 (by simp); have q1 := hSw.1.cell 1 (by simp); have q2 := hSw.2; simp only [List.getElem_cons_zero, List.getElem_cons_succ] at q0 q1
     go_simp
     all_goals (try with_reducible rfl)) ?_
    refine Kn.takeS 11 ⟨some 25, _, _, _, _, _⟩ (hy := fun w hSw => by
     (try dsimp only at hSw); have q0 := hSw.1.cell 0 (by simp); have q1 := hSw.1.cell 1 (by simp); have q2 := hSw.2; simp only [List.getElem_cons_zero, List.getElem_cons_succ] at q0 q1
     go_simp
     all_goals (try with_reducible rfl)) ?_
    refine Kn.takeS 12 ⟨some 26, _, _, _, _, _⟩ (hy := fun w hSw => by
     (try dsimp only at hSw); have q0 := hSw.1.cell 0 (by simp); have q1 := hSw.1.cell 1 (by simp); have q2 := hSw.2; simp only [List.getElem_cons_zero, List.getElem_cons_succ] at q0 q1
     go_simp
     all_goals (try with_reducible rfl)) ?_
    refine Kn.takeS 13 ⟨some 27, _, _, _, _, _⟩ (hy := fun w hSw => by
     (try dsimp only at hSw); have q0 := hSw.1.cell 0 (by simp); have q1 := hSw.1.cell 1 (by simp); have q2 := hSw.2; simp only [List.getElem_cons_zero, List.getElem_cons_succ] at q0 q1
     go_simp
     all_goals (try with_reducible rfl)) ?_
    refine Kn.takeS 14 ⟨some 28, _, _, _, _, _⟩ (hy := fun w hSw => by
     (try dsimp only at hSw); have q0 := hSw.1.cell 0 (by simp); have q1 := hSw.1.cell 1 (by simp); have q2 := hSw.2; simp only [List.getElem_cons_zero, List.getElem_cons_succ] at q0 q1
     go_simp
     all_goals (try with_reducible rfl)) ?_
    refine Kn.takeS 15 ⟨some 29, _, _, _, _, _⟩ (hy := fun w hSw => by
     (try dsimp only at hSw); have q0 := hSw.1.cell 0 (by simp); have q1 := hSw.1.cell 1 (by simp); have q2 := hSw.2; simp only [List.getElem_cons_zero, List.getElem_cons_succ] at q0 q1
     go_simp
     all_goals (try with_reducible rfl)) ?_
    refine Kn.takeS 16 ⟨some 30, _, _, _, _, _⟩ (hy := fun w hSw => by
     (try dsimp only at hSw); have q0 := hSw.1.cell 0 (by simp); have q1 := hSw.1.cell 1 (by simp); have q2 := hSw.2; simp only [List.getElem_cons_zero, List.getElem_cons_succ] at q0 q1
     go_simp
     all_goals (try with_reducible rfl)) ?_
    refine Kn.takeS 17 ⟨some 31, _, _, _, _, _⟩ (hy := fun w hSw => by
     (try dsimp only at hSw); have q0 := hSw.1.cell 0 (by simp); have q1 := hSw.1.cell 1 (by simp); have q2 := hSw.2; simp only [List.getElem_cons_zero, List.getElem_cons_succ] at q0 q1
     go_simp
     all_goals (try with_reducible rfl)) ?_
    refine Kn.takeS 18 ⟨some 32, _, _, _, _, _⟩ (hy := fun w hSw => by
     (try dsimp only at hSw); have q0 := hSw.1.cell 0 (by simp); have q1 := hSw.1.cell 1 (by simp); have q2 := hSw.2; simp only [List.getElem_cons_zero, List.getElem_cons_succ] at q0 q1
     go_simp
     all_goals (try with_reducible rfl)) ?_
    refine Kn.takeS 19 ⟨some 33, _, _, _, _, _⟩ (hy := fun w hSw => by
     (try dsimp only at hSw); have q0 := hSw.1.cell 0 (by simp); have q1 := hSw.1.cell 1 (by simp); have q2 := hSw.2; simp only [List.getElem_cons_zero, List.getElem_cons_succ] at q0 q1
     go_simp
     all_goals (try with_reducible rfl)) ?_
    refine Kn.takeR 20 ⟨some 34, _, _, _, _, _⟩ fun K hK => ?_
    go_simp
    refine (geom_config_any gb cf.b cf.s cf.l _ (HX8.out.fact (fun W => GeoAt W gb cf.b cf.s cf.l) HG.out)).mono ?_
    rintro en v9 ⟨rfl, hO⟩
    have HX9 := Lib.hid (HX8.out.keep0 hO)
    clear hO HX8
    refine hK.out _ _ ⟨HX9.out.boxi 1 rfl, by simpa [SB] using (HX9.out.boxi 0 (p := S) rfl).cell 1 (by simp [SB])⟩ (fun hSw9 => ?_)
    clear hK K
    clear hSw8
    refine Kn.takeS 21 ⟨some 35, _, _, _, _, _⟩ (hy := fun w hSw => by
     (try dsimp only at hSw); have q0 := hSw.1.cell 0 (by simp); have q1 := hSw.1.cell 1 (by simp); have q2 := hSw.2; simp only [List.getElem_cons_zero, List.getElem_cons_succ] at q0 q1
     go_simp
     all_goals (try with_reducible rfl)) ?_
    refine Kn.takeS 22 ⟨some 36, _, _, _, _, _⟩ (hy := fun w hSw => by
     (try dsimp only at hSw); have q0 := hSw.1.cell 0 (by simp); have q1 := hSw.1.cell 1 (by simp); have q2 := hSw.2; simp only [List.getElem_cons_zero, List.getElem_cons_succ] at q0 q1
     go_simp
     all_goals (try with_reducible rfl)) ?_
    refine Kn.takeS 23 ⟨some 37, _, _, _, _, _⟩ (hy := fun w hSw => by
     (try dsimp only at hSw); have q0 := hSw.1.cell 0 (by simp); have q1 := hSw.1.cell 1 (by simp); have q2 := hSw.2; simp only [List.getElem_cons_zero, List.getElem_cons_succ] at q0 q1
     go_simp
     all_goals (try with_reducible rfl)) ?_
    refine wpAnyH_done (by kernel_rfl) ?_ _
    clear hSw9
    by_cases h0 : 0 < p.o
    ·have HSB := Lib.hid (scanB_off (d := d) (c := cf) (own := own) (p := p) ⟨hk0, by omega, by omega⟩ h0)
     have bz := HX9.out.boxi 1 rfl
     obtain ⟨y0, y1, y2, y3, y4⟩ := Kn.own5 bz
     have z0 := bz.frozen 0
     have z1 := bz.frozen 1
     have z2 := bz.frozen 2
     have z3 := bz.frozen 3
     have z4 := bz.frozen 4
     have HEND := Lib.hid ((HX9.out.call1 1 rfl (own_set5 bz (.int .i64 p.s) (.int .i64 p.o) (.int .i64 p.l) (.int .i64 p.p) (.int .i64 p.m)) (only_set5 _ fb _ _ _ _ _)).sub (L' := (S, SB pd.D gb p own e 0) :: L) (F' := F) (by simp) (by intro f hf; simp [hf]))
     clear bz HX9
     go_wp2
     (try simp only [Exit.inBlock, Exit.then])
     refine bodyPost_ret (v := .tuple #[.agg #[.int .i64 p.s, .int .i64 p.o, .int .i64 p.l, .int .i64 p.p, .int .i64 p.m], .bool true]) ?_ rfl ?_
     ·simp only [results, HRES.out]
      go_simp
     ·rw [HSB.out]
      exact ⟨rfl, HEND.out⟩
    ·have q1 := (HX9.out.boxi 1 rfl).cell 1 (by simp)
     simp only [List.getElem_cons_zero, List.getElem_cons_succ] at q1
     go_wp2_with fail
     clear q1
     have HY0 := Lib.hid HX9.out.drew
     clear HX9
     refine wp_region_held_drew (S := fun w' => Kn.Own w' fb [.int .i64 p.s, .int .i64 p.o, .int .i64 p.l, .int .i64 p.p, .int .i64 p.m] ∧ w'.cell? ⟨S, 1, none⟩ = some (.pointer (some ⟨gb, 0, none⟩))) (by kernel_rfl) ⟨HY0.out.boxi 1 rfl, by simpa [SB] using (HY0.out.boxi 0 (p := S) rfl).cell 1 (by simp [SB])⟩ (fun hSw0 => ?_)
     generalize v9.drew = u0 at *
     refine Kn.takeS 0 ⟨some 44, _, _, _, _, _⟩ ?_
     refine Kn.takeS 1 ⟨some 45, _, _, _, _, _⟩ ?_
     refine Kn.takeS 2 ⟨some 46, _, _, _, _, _⟩ ?_
     refine Kn.takeS 3 ⟨some 47, _, _, _, _, _⟩ ?_
     refine Kn.takeS 4 ⟨some 48, _, _, _, _, _⟩ ?_
     refine Kn.takeS 5 ⟨some 49, _, _, _, _, _⟩ ?_
     refine Kn.takeS 6 ⟨some 50, _, _, _, _, _⟩ (v := (.int .i64 p.s)) (hy := fun w hSw => by
      have q0 := Kn.own1 hSw.1
      go_simp) ?_
     refine Kn.takeR 7 ⟨some 51, _, _, _, _, _⟩ fun K hK => ?_
     go_simp
     refine (geom_seg_any gb cf p.s _ (HY0.out.fact (fun W => GeoAt W gb cf.b cf.s cf.l) HG.out) HC.out).mono ?_
     rintro en u1 ⟨rfl, hO⟩
     have HY1 := Lib.hid (HY0.out.keep0 hO)
     clear hO HY0
     refine hK.out _ _ ⟨HY1.out.boxi 1 rfl, by simpa [SB] using (HY1.out.boxi 0 (p := S) rfl).cell 1 (by simp [SB])⟩ (fun hSn => ?_)
     clear hK K hSw0
     have hSw0 := hSn
     clear hSn
     refine Kn.takeR 8 ⟨some 52, _, _, _, _, _⟩ fun K hK => ?_
     go_simp
     refine (scan_read_any w0 _ S gb pd d p own e 0 _ G F (cf.at_ p.s) HY1.out (HDK.out.mono (fun x hx => List.mem_cons_of_mem _ hx))).mono ?_
     rintro en u2 ⟨A, n, cc, rfl, hrd⟩
     have HY2 := Lib.hid hrd
     clear hrd HY1
     refine hK.out _ _ ⟨HY2.out.boxi 1 rfl, by simpa [SB] using (HY2.out.boxi 0 (p := S) rfl).cell 1 (by simp [SB])⟩ (fun hSn => ?_)
     clear hK K hSw0
     have hSw0 := hSn
     clear hSn
     refine Kn.takeS 9 ⟨some 43, _, _, _, _, _⟩ ?_
     refine Kn.takeS 10 ⟨some 53, _, _, _, _, _⟩ ?_
     refine Kn.takeS 11 ⟨some 54, _, _, _, _, _⟩ ?_
     refine Kn.takeS 12 ⟨some 4, _, _, _, _, _⟩ ?_
     refine Kn.takeS 13 ⟨some 3, _, _, _, _, _⟩ ?_
     refine wpAnyH_done (by kernel_rfl) ?_ _
     clear hSw0
     have hby := HY2.out.fact (fun W => Bys W A n cc (d.read (cf.at_ p.s))) List.mem_cons_self
     have hnl := hby.len
     rw [bvs_length] at hnl
     have hn64 : n ≤ 65536 := by rw [← hnl, Dk.read_len HDK.out.ok]; split <;> omega
     have HBY := Lib.hid hby
     clear hby hnl
     obtain ⟨z, hz⟩ : ∃ z, d.err (cf.at_ p.s) = z := ⟨_, rfl⟩
     rw [hz] at HY2 ⊢
     have HZ := Lib.hid hz
     have hre : z ≠ 0 → d.read (cf.at_ p.s) = [] := fun h => by unfold Dk.read; rw [if_neg (by rw [hz]; exact h)]
     clear hz
     go_wp2_with fail
     refine (head_dec_any A n cc _ _ HBY.out hn64).mono ?_
     rintro en u3 ⟨rfl, hO⟩
     by_cases hz0 : z = 0
     ·subst hz0
      cases hdh : decHead (d.read (cf.at_ p.s)) with
      | none =>
       have HDH := Lib.hid hdh
       have HY3 := Lib.hid ((HY2.out.keep0 hO).alloc (.cells #[.int .i64 0, .int .i64 0, .int .i64 0, .int .i64 0] 143))
       clear hO HY2 HBY hre hdh
       simp only [Option.getD_none, Option.isSome_none, It.vals]
       have HSB := Lib.hid (scanB_none (d := d) (c := cf) (own := own) (p := p) ⟨hk0, by omega, by omega⟩ (by omega) HZ.out HDH.out)
       have bz := HY3.out.boxi 1 rfl
       obtain ⟨y0, y1, y2, y3, y4⟩ := Kn.own5 bz
       have z0 := bz.frozen 0
       have z1 := bz.frozen 1
       have z2 := bz.frozen 2
       have z3 := bz.frozen 3
       have z4 := bz.frozen 4
       have HEND := Lib.hid ((HY3.out.call1 1 rfl (own_set5 bz (.int .i64 p.s) (.int .i64 p.o) (.int .i64 p.l) (.int .i64 p.p) (.int .i64 p.m)) (only_set5 _ fb _ _ _ _ _)).sub (L' := (S, SB pd.D gb p own e 0) :: L) (F' := F) (by simp) (by intro f hf; simp [hf]))
       clear bz HY3
       go_wp2
       (try simp only [Exit.inBlock, Exit.then])
       refine bodyPost_ret (v := .tuple #[.agg #[.int .i64 p.s, .int .i64 p.o, .int .i64 p.l, .int .i64 p.p, .int .i64 p.m], .bool false]) ?_ rfl ?_
       ·simp only [results, HRES.out]
        go_simp
       ·rw [HSB.out]
        exact ⟨rfl, HEND.out⟩
      | some x =>
       obtain ⟨hk, hb, hc, hv⟩ := x
       have HDH := Lib.hid hdh
       clear hre hdh
       simp only [Option.getD_some, Option.isSome_some, It.vals]
       have HY3 := Lib.hid ((HY2.out.keep0 hO).alloc (.cells #[.int .i64 hk, .int .i64 hb, .int .i64 hc, .int .i64 hv] 143))
       have HBY3 := Lib.hid ((HBY.out.keep0 hO).alloc (.cells #[.int .i64 hk, .int .i64 hb, .int .i64 hc, .int .i64 hv] 143))
       have hX := Own.new u3 #[.int .i64 hk, .int .i64 hb, .int .i64 hc, .int .i64 hv] 143
       obtain ⟨x0, x1, x2, x3⟩ := Kn.own4 hX
       have xl := hX.lt
       have bS := (HY3.out.boxi 0 (p := S) rfl).cell 7 (by simp [SB])
       simp only [SB, List.getElem_cons_zero, List.getElem_cons_succ] at bS
       have bp := HY3.out.boxi 1 rfl
       obtain ⟨p0, p1, p2, p3, p4⟩ := Kn.own5 bp
       clear hO HY2 HBY bp hX
       cases own with
       | true =>
        have hoT : (true || headFits (some ⟨hk, hb, hc, hv⟩) p.s p.l p.p p.m) = true := rfl
        clear p0 p1 p2 p3 p4 HBY3
        have HSB := Lib.hid ((scanB_some (d := d) (c := cf) (own := true) (p := p) ⟨hk0, by omega, by omega⟩ (by omega) HZ.out HDH.out).trans (by rw [hoT]))
        have bz := HY3.out.boxi 1 rfl
        obtain ⟨y0, y1, y2, y3, y4⟩ := Kn.own5 bz
        have z0 := bz.frozen 0
        have z1 := bz.frozen 1
        have z2 := bz.frozen 2
        have z3 := bz.frozen 3
        have z4 := bz.frozen 4
        have HEND := Lib.hid (((HY3.out.call1 1 rfl (own_set5 bz (.int .i64 p.s) (.int .i64 1) (.int .i64 hc) (.int .i64 hv) (.int .i64 hb)) (only_set5 _ fb _ _ _ _ _)).call1 1 rfl (own_set5 (own_set5 bz (.int .i64 p.s) (.int .i64 1) (.int .i64 hc) (.int .i64 hv) (.int .i64 hb)) (.int .i64 p.s) (.int .i64 1) (.int .i64 hc) (.int .i64 hv) (.int .i64 hb)) (only_set5 _ fb _ _ _ _ _)).sub (L' := (S, SB pd.D gb p true e 0) :: L) (F' := F) (by simp) (by intro f hf; simp [hf]))
        have bf := own_set5 (own_set5 bz (.int .i64 p.s) (.int .i64 1) (.int .i64 hc) (.int .i64 hv) (.int .i64 hb)) (.int .i64 p.s) (.int .i64 1) (.int .i64 hc) (.int .i64 hv) (.int .i64 hb)
        have HBF := Lib.hid bf
        clear bf bz HY3
        go_wp2
        (try simp only [Exit.inBlock, Exit.then])
        generalize (((((((((((u3.alloc (.cells #[.int .i64 hk, .int .i64 hb, .int .i64 hc, .int .i64 hv] 143)).setCell ⟨fb, 0, none⟩ (.int .i64 p.s)).setCell ⟨fb, 1, none⟩ (.int .i64 1)).setCell ⟨fb, 2, none⟩ (.int .i64 hc)).setCell ⟨fb, 3, none⟩ (.int .i64 hv)).setCell ⟨fb, 4, none⟩ (.int .i64 hb)).setCell ⟨fb, 0, none⟩ (.int .i64 p.s)).setCell ⟨fb, 1, none⟩ (.int .i64 1)).setCell ⟨fb, 2, none⟩ (.int .i64 hc)).setCell ⟨fb, 3, none⟩ (.int .i64 hv)).setCell ⟨fb, 4, none⟩ (.int .i64 hb)) = wz at *
        have bf := HBF.out
        obtain ⟨k0, k1, k2, k3, k4⟩ := Kn.own5 bf
        clear bf
        refine bodyPost_ret (v := .tuple #[.agg #[.int .i64 p.s, .int .i64 1, .int .i64 hc, .int .i64 hv, .int .i64 hb], .bool true]) ?_ rfl ?_
        ·simp only [results, HRES.out]
         go_simp
        ·rw [HSB.out]
         exact ⟨rfl, HEND.out⟩
       | false =>
        go_wp2_with fail
        refine (head_fits_any A n cc _ p.s p.o p.l p.p p.m _ HBY3.out hn64).mono ?_
        rintro en u5 ⟨rfl, hO⟩
        rw [HDH.out]
        have HY4 := Lib.hid (HY3.out.keep0 hO)
        have x0 := hO.cell x0 (by simp)
        have x1 := hO.cell x1 (by simp)
        have x2 := hO.cell x2 (by simp)
        have x3 := hO.cell x3 (by simp)
        clear hO HBY3 p0 p1 p2 p3 p4 bS HY3 xl
        cases hft : headFits (some ⟨hk, hb, hc, hv⟩) p.s p.l p.p p.m with
        | true =>
         have hoT : (false || headFits (some ⟨hk, hb, hc, hv⟩) p.s p.l p.p p.m) = true := by rw [hft]; rfl
         have HOT := Lib.hid hoT
         clear hoT hft
         have HSB := Lib.hid ((scanB_some (d := d) (c := cf) (own := false) (p := p) ⟨hk0, by omega, by omega⟩ (by omega) HZ.out HDH.out).trans (by rw [HOT.out]))
         have bz := HY4.out.boxi 1 rfl
         obtain ⟨y0, y1, y2, y3, y4⟩ := Kn.own5 bz
         have z0 := bz.frozen 0
         have z1 := bz.frozen 1
         have z2 := bz.frozen 2
         have z3 := bz.frozen 3
         have z4 := bz.frozen 4
         have HEND := Lib.hid (((HY4.out.call1 1 rfl (own_set5 bz (.int .i64 p.s) (.int .i64 1) (.int .i64 hc) (.int .i64 hv) (.int .i64 hb)) (only_set5 _ fb _ _ _ _ _)).call1 1 rfl (own_set5 (own_set5 bz (.int .i64 p.s) (.int .i64 1) (.int .i64 hc) (.int .i64 hv) (.int .i64 hb)) (.int .i64 p.s) (.int .i64 1) (.int .i64 hc) (.int .i64 hv) (.int .i64 hb)) (only_set5 _ fb _ _ _ _ _)).sub (L' := (S, SB pd.D gb p false e 0) :: L) (F' := F) (by simp) (by intro f hf; simp [hf]))
         have bf := own_set5 (own_set5 bz (.int .i64 p.s) (.int .i64 1) (.int .i64 hc) (.int .i64 hv) (.int .i64 hb)) (.int .i64 p.s) (.int .i64 1) (.int .i64 hc) (.int .i64 hv) (.int .i64 hb)
         have HBF := Lib.hid bf
         clear bf bz HY4
         go_wp2
         (try simp only [Exit.inBlock, Exit.then])
         generalize ((((((((((u5.setCell ⟨fb, 0, none⟩ (.int .i64 p.s)).setCell ⟨fb, 1, none⟩ (.int .i64 1)).setCell ⟨fb, 2, none⟩ (.int .i64 hc)).setCell ⟨fb, 3, none⟩ (.int .i64 hv)).setCell ⟨fb, 4, none⟩ (.int .i64 hb)).setCell ⟨fb, 0, none⟩ (.int .i64 p.s)).setCell ⟨fb, 1, none⟩ (.int .i64 1)).setCell ⟨fb, 2, none⟩ (.int .i64 hc)).setCell ⟨fb, 3, none⟩ (.int .i64 hv)).setCell ⟨fb, 4, none⟩ (.int .i64 hb)) = wz at *
         have bf := HBF.out
         obtain ⟨k0, k1, k2, k3, k4⟩ := Kn.own5 bf
         clear bf
         refine bodyPost_ret (v := .tuple #[.agg #[.int .i64 p.s, .int .i64 1, .int .i64 hc, .int .i64 hv, .int .i64 hb], .bool true]) ?_ rfl ?_
         ·simp only [results, HRES.out]
          go_simp
         ·rw [HSB.out]
          exact ⟨rfl, HEND.out⟩
        | false =>
         have hoT : (false || headFits (some ⟨hk, hb, hc, hv⟩) p.s p.l p.p p.m) = false := by rw [hft]; rfl
         have HOT := Lib.hid hoT
         clear hoT hft x0 x1 x2 x3
         have HSB := Lib.hid ((scanB_some (d := d) (c := cf) (own := false) (p := p) ⟨hk0, by omega, by omega⟩ (by omega) HZ.out HDH.out).trans (by rw [HOT.out]))
         have bz := HY4.out.boxi 1 rfl
         obtain ⟨y0, y1, y2, y3, y4⟩ := Kn.own5 bz
         have z0 := bz.frozen 0
         have z1 := bz.frozen 1
         have z2 := bz.frozen 2
         have z3 := bz.frozen 3
         have z4 := bz.frozen 4
         have HEND := Lib.hid ((HY4.out.call1 1 rfl (own_set5 bz (.int .i64 p.s) (.int .i64 p.o) (.int .i64 p.l) (.int .i64 p.p) (.int .i64 p.m)) (only_set5 _ fb _ _ _ _ _)).sub (L' := (S, SB pd.D gb p false e 0) :: L) (F' := F) (by simp) (by intro f hf; simp [hf]))
         clear bz HY4
         go_wp2
         (try simp only [Exit.inBlock, Exit.then])
         refine bodyPost_ret (v := .tuple #[.agg #[.int .i64 p.s, .int .i64 p.o, .int .i64 p.l, .int .i64 p.p, .int .i64 p.m], .bool false]) ?_ rfl ?_
         ·simp only [results, HRES.out]
          go_simp
         ·rw [HSB.out]
          exact ⟨rfl, HEND.out⟩
     ·have hrd := hre hz0
      rw [hrd]
      rw [decHead_nil]
      have hzb : decide (z = 0) = false := by simpa using hz0
      have HY3 := Lib.hid ((HY2.out.keep0 hO).alloc (.cells #[.int .i64 0, .int .i64 0, .int .i64 0, .int .i64 0] 143))
      clear hO HY2 HBY hre hrd
      simp only [Option.getD_none, Option.isSome_none, It.vals]
      have HSB := Lib.hid ((scanB_err (d := d) (c := cf) (own := own) (p := p) ⟨hk0, by omega, by omega⟩ (by omega) (by rw [HZ.out]; exact hz0)).trans (by rw [HZ.out]))
      have bz := HY3.out.boxi 1 rfl
      obtain ⟨y0, y1, y2, y3, y4⟩ := Kn.own5 bz
      have z0 := bz.frozen 0
      have z1 := bz.frozen 1
      have z2 := bz.frozen 2
      have z3 := bz.frozen 3
      have z4 := bz.frozen 4
      have HEND := Lib.hid ((HY3.out.call1 1 rfl (own_set5 bz (.int .i64 p.s) (.int .i64 p.o) (.int .i64 p.l) (.int .i64 p.p) (.int .i64 p.m)) (only_set5 _ fb _ _ _ _ _)).sub (L' := (S, SB pd.D gb p own e z) :: L) (F' := F) (by simp) (by intro f hf; simp [hf]))
      clear bz HY3
      go_wp2
      (try simp only [Exit.inBlock, Exit.then])
      refine bodyPost_ret (v := .tuple #[.agg #[.int .i64 p.s, .int .i64 p.o, .int .i64 p.l, .int .i64 p.p, .int .i64 p.m], .bool false]) ?_ rfl ?_
      ·simp only [results, HRES.out]
       go_simp
      ·rw [HSB.out]
       exact ⟨rfl, HEND.out⟩
 ·refine Kn.takeS 0 ⟨some 14, _, _, _, _, _⟩ (hy := fun w hSw => by
   (try dsimp only at hSw); have q0 := hSw.1.cell 0 (by simp); have q1 := hSw.1.cell 1 (by simp); have q2 := hSw.2; simp only [List.getElem_cons_zero, List.getElem_cons_succ] at q0 q1
   go_simp
   all_goals (try with_reducible rfl)) ?_
  refine Kn.takeS 1 ⟨some 15, _, _, _, _, _⟩ (hy := fun w hSw => by
   (try dsimp only at hSw); have q0 := hSw.1.cell 0 (by simp); have q1 := hSw.1.cell 1 (by simp); have q2 := hSw.2; simp only [List.getElem_cons_zero, List.getElem_cons_succ] at q0 q1
   go_simp
   all_goals (try with_reducible rfl)) ?_
  refine Kn.takeS 2 ⟨some 16, _, _, _, _, _⟩ (hy := fun w hSw => by
   (try dsimp only at hSw); have q0 := hSw.1.cell 0 (by simp); have q1 := hSw.1.cell 1 (by simp); have q2 := hSw.2; simp only [List.getElem_cons_zero, List.getElem_cons_succ] at q0 q1
   go_simp
   all_goals (try with_reducible rfl)) ?_
  refine Kn.takeS 3 ⟨some 17, _, _, _, _, _⟩ (hy := fun w hSw => by
   (try dsimp only at hSw); have q0 := hSw.1.cell 0 (by simp); have q1 := hSw.1.cell 1 (by simp); have q2 := hSw.2; simp only [List.getElem_cons_zero, List.getElem_cons_succ] at q0 q1
   go_simp
   all_goals (try with_reducible rfl)) ?_
  refine Kn.takeS 4 ⟨some 18, _, _, _, _, _⟩ (hy := fun w hSw => by
   (try dsimp only at hSw); have q0 := hSw.1.cell 0 (by simp); have q1 := hSw.1.cell 1 (by simp); have q2 := hSw.2; simp only [List.getElem_cons_zero, List.getElem_cons_succ] at q0 q1
   go_simp
   all_goals (try with_reducible rfl)) ?_
  refine Kn.takeS 5 ⟨some 19, _, _, _, _, _⟩ (hy := fun w hSw => by
   (try dsimp only at hSw); have q0 := hSw.1.cell 0 (by simp); have q1 := hSw.1.cell 1 (by simp); have q2 := hSw.2; simp only [List.getElem_cons_zero, List.getElem_cons_succ] at q0 q1
   go_simp
   all_goals (try with_reducible rfl)) ?_
  refine Kn.takeR 6 ⟨some 20, _, _, _, _, _⟩ fun K hK => ?_
  go_simp
  refine (geom_has_any gb cf.b cf.s cf.l p.s _ (HX7.out.fact (fun W => GeoAt W gb cf.b cf.s cf.l) HG.out) HC.out).mono ?_
  rintro en vx ⟨rfl, rfl⟩
  rw [decide_eq_false hk0]
  have HX8 := Lib.hid HX7.out
  clear HX7
  refine hK.out _ _ ⟨HX8.out.boxi 1 rfl, by simpa [SB] using (HX8.out.boxi 0 (p := S) rfl).cell 1 (by simp [SB])⟩ (fun hSw8 => ?_)
  clear hK K
  clear hSw7
  refine Kn.takeS 7 ⟨some 21, _, _, _, _, _⟩ (hy := fun w hSw => by
   (try dsimp only at hSw); have q0 := hSw.1.cell 0 (by simp); have q1 := hSw.1.cell 1 (by simp); have q2 := hSw.2; simp only [List.getElem_cons_zero, List.getElem_cons_succ] at q0 q1
   go_simp
   all_goals (try with_reducible rfl)) ?_
  refine Kn.takeS 8 ⟨some 22, _, _, _, _, _⟩ (hy := fun w hSw => by
   (try dsimp only at hSw); have q0 := hSw.1.cell 0 (by simp); have q1 := hSw.1.cell 1 (by simp); have q2 := hSw.2; simp only [List.getElem_cons_zero, List.getElem_cons_succ] at q0 q1
   go_simp
   all_goals (try with_reducible rfl)) ?_
  refine Kn.takeN 9 ⟨some 23, _, _, _, _, _⟩ ?_
  refine Kn.takeN 10 ⟨some 24, _, _, _, _, _⟩ ?_
  refine Kn.takeN 11 ⟨some 25, _, _, _, _, _⟩ ?_
  refine Kn.takeS 12 ⟨some 26, _, _, _, _, _⟩ (hy := fun w hSw => by
   (try dsimp only at hSw); have q0 := hSw.1.cell 0 (by simp); have q1 := hSw.1.cell 1 (by simp); have q2 := hSw.2; simp only [List.getElem_cons_zero, List.getElem_cons_succ] at q0 q1
   go_simp
   all_goals (try with_reducible rfl)) ?_
  refine Kn.takeS 13 ⟨some 27, _, _, _, _, _⟩ (hy := fun w hSw => by
   (try dsimp only at hSw); have q0 := hSw.1.cell 0 (by simp); have q1 := hSw.1.cell 1 (by simp); have q2 := hSw.2; simp only [List.getElem_cons_zero, List.getElem_cons_succ] at q0 q1
   go_simp
   all_goals (try with_reducible rfl)) ?_
  refine Kn.takeN 14 ⟨some 28, _, _, _, _, _⟩ ?_
  refine Kn.takeN 15 ⟨some 29, _, _, _, _, _⟩ ?_
  refine Kn.takeN 16 ⟨some 30, _, _, _, _, _⟩ ?_
  refine Kn.takeN 17 ⟨some 31, _, _, _, _, _⟩ ?_
  refine Kn.takeN 18 ⟨some 32, _, _, _, _, _⟩ ?_
  refine Kn.takeN 19 ⟨some 33, _, _, _, _, _⟩ ?_
  refine Kn.takeN 20 ⟨some 34, _, _, _, _, _⟩ ?_
  refine Kn.takeN 21 ⟨some 35, _, _, _, _, _⟩ ?_
  refine Kn.takeN 22 ⟨some 36, _, _, _, _, _⟩ ?_
  refine Kn.takeS 23 ⟨some 37, _, _, _, _, _⟩ (hy := fun w hSw => by
   (try dsimp only at hSw); have q0 := hSw.1.cell 0 (by simp); have q1 := hSw.1.cell 1 (by simp); have q2 := hSw.2; simp only [List.getElem_cons_zero, List.getElem_cons_succ] at q0 q1
   go_simp
   all_goals (try with_reducible rfl)) ?_
  refine wpAnyH_done (by kernel_rfl) ?_ _
  clear hSw8
  have HSB := Lib.hid (scanB_no (d := d) (c := cf) (own := own) (p := p) (by omega))
  have bz := HX8.out.boxi 1 rfl
  obtain ⟨y0, y1, y2, y3, y4⟩ := Kn.own5 bz
  have z0 := bz.frozen 0
  have z1 := bz.frozen 1
  have z2 := bz.frozen 2
  have z3 := bz.frozen 3
  have z4 := bz.frozen 4
  have HEND := Lib.hid ((HX8.out.call1 1 rfl (own_set5 bz (.int .i64 p.s) (.int .i64 p.o) (.int .i64 p.l) (.int .i64 p.p) (.int .i64 p.m)) (only_set5 _ fb _ _ _ _ _)).sub (L' := (S, SB pd.D gb p own e 0) :: L) (F' := F) (by simp) (by intro f hf; simp [hf]))
  clear bz HX8
  go_wp2
  (try simp only [Exit.inBlock, Exit.then])
  refine bodyPost_ret (v := .tuple #[.agg #[.int .i64 p.s, .int .i64 p.o, .int .i64 p.l, .int .i64 p.p, .int .i64 p.m], .bool false]) ?_ rfl ?_
  ·simp only [results, HRES.out]
   go_simp
  ·rw [HSB.out]
   exact ⟨rfl, HEND.out⟩
end Go.Proofs.YtgcfdjcpcclcjaaGreat
namespace Go.Kn
open Go Go.RowKit
theorem ownsRow_base {w : World} {b b' e sz n : Nat} {v : Value} {xs : List Value} (h : w.ownsRow b' e sz v n xs) (hb : b ≤ b') : w.ownsRow b e sz v n xs := by
 obtain ⟨h1, h2⟩ := h
 refine ⟨h1, ?_⟩
 rcases h2 with h2 | ⟨g, cap, cur, hv, hb', rest⟩
 ·exact .inl h2
 ·exact .inr ⟨g, cap, cur, hv, Nat.le_trans hb hb', rest⟩
/-- a slice more that is owned: in new blocks -/
theorem Wc.gadd {w0 w w' : World} {L : List (Nat × List Value)} {G : List Gs} {F : List (World → Prop)} (h : Wc w0 w L G F) (hO : Only [] w w') {e sz n : Nat} {v : Value} {xs : List Value} (ho : w'.ownsRow w.heap.size e sz v n xs) : Wc w0 w' L (⟨e, sz, v, n, xs⟩ :: G) F := by
 have h' := h.keep0 hO
 have hlt := ho.lt
 have hm : ∀ k, Mut L G k → k < w.heap.size := fun k hk => h.mlt hk
 refine ⟨h'.only, h'.own, h'.lo, h'.nd, ?_, ?_, ?_, ?_⟩
 ·intro x hx
  rcases List.mem_cons.1 hx with rfl | hx
  ·exact ownsRow_base ho h.only.size
  ·exact h'.g1 x hx
 ·refine List.Pairwise.cons (fun y hy k hk hy2 => ?_) h'.g2
  have h1 := (hlt k hk).1
  have h2 := hm k (.inr ⟨y, hy, hy2⟩)
  omega
 ·intro x hx y hy
  rcases List.mem_cons.1 hy with rfl | hy
  ·intro hk
   have h1 := (hlt _ hk).1
   have h2 := hm x.1 (.inl (List.mem_map_of_mem hx))
   omega
  ·exact h'.g3 x hx y hy
 ·intro f hf w2 h2
  refine h.fx f hf w2 fun k o hn hk hc => h2 k o ?_ (by rw [hO.block k (lt_of_obj hk) (by simp)]; exact hk) hc
  have hk' := lt_of_obj hk
  rintro (h3 | ⟨g, hg, h3⟩)
  ·exact hn (.inl h3)
  ·rcases List.mem_cons.1 hg with rfl | hg
   ·have := (hlt k h3).1
    omega
   ·exact hn (.inr ⟨g, hg, h3⟩)
end Go.Kn
namespace Go.Proofs.YtgcfdjcpcclcjaaGreat
open Go Go.RowKit Go.Kn
def RdOwn (w : World) (b : List UInt8) (err : Int) (e : Ending) (w' : World) : Prop := ∃ v n, e = .returned (.tuple #[v, .int .i64 err]) ∧ w'.ownsRow w.heap.size 5 1 v n (bvs b) ∧ Only [] w w'
theorem RdOwn.none (w : World) (err : Int) : RdOwn w [] err (.returned (.tuple #[.slice none 0 0, .int .i64 err])) w := ⟨_, 0, rfl, World.ownsRow_nil w _ _ _, Only.refl _ _⟩
set_option maxRecDepth 100000 in
theorem clone_own (ad : Addr) (n c : Nat) (bs : List UInt8) (w : World) (h : Bys w (some ad) n c bs) (hb : n ≤ 1000000) :
  Calls Tryz.prog 84 #[.slice (some ad) n c] w fun e w' => ∃ v, e = .returned v ∧ w'.ownsRow w.heap.size 5 1 v n (bvs bs) ∧ Only [] w w' := by
 obtain ⟨i0, hi, hz0, hz1, hz2⟩ := info_parts Tryz.infoU8
 have hone := bvs_one bs
 have hnil := fun (w : World) => Lib.run_eql_slice_nil (P := Tryz.prog) w 47 5 (some ad) n c 0 0 Tryz.underlying47
 go_enter Tryz.func84, Tryz.ntmps84
 go_wp2_with (first | (at_builtin; refine wpList_append_row1 rfl (.tmp 5) (.tmp 6) _ rfl w.heap.size 5 i0 _ 1 Tryz.underlying47 hi hz0 hz1 hz2 rfl _ 0 [] rfl (World.ownsRow_made w #[] 0 (Nat.le_refl _) (by unfold maxLen; omega) rfl) (some ad) n c (bvs bs) rfl (h.keep0 ((Only.refl _ _).alloc _)) hone (by unfold maxLen; omega) (by omega) (by simp) ?_; intro v' w1 hown hgrow hat))
 go_ret
 have hO : Only [] w w1 := ((Only.refl _ _).alloc _).grown hgrow (by intro k hk; injection hk with hk; right; rw [← hk]; exact Nat.le_refl _)
 simp only [Nat.zero_add, List.nil_append] at hown
 exact ⟨v', rfl, hown, hO⟩
set_option maxRecDepth 100000 in
set_option maxHeartbeats 4000000 in
theorem dk_read_own (w : World) (p : PD) (d : Dk) (a : Int) (h : DskRd w p d) :
  Calls Tryz.prog 23 #[.pointer (some ⟨p.D, 0, none⟩), .int .i64 a] w (RdOwn w (d.read a) (d.err a)) := by
 obtain ⟨v, hbx⟩ := h.D_
 have c1 := hbx.cell 1 (by simp [PD.box])
 have c3 := hbx.cell 3 (by simp [PD.box])
 have c6 := hbx.cell 6 (by simp [PD.box])
 simp only [PD.box, List.getElem_cons_zero, List.getElem_cons_succ] at c1 c3 c6
 have hfb := h.f_
 have hnb := h.n_
 have H := Lib.hid h
 have hN := h.N
 have hF := h.ok.f
 have hn := h.ok.n
 by_cases ho : d.has a = true
 ·have hr : 0 ≤ a ∧ a < (p.N : Int) := by unfold Dk.has at ho; simp only [decide_eq_true_eq] at ho; omega
  obtain ⟨k, rfl⟩ : ∃ k : Nat, a = k := ⟨a.toNat, by omega⟩
  have hkN : k < p.N := by omega
  have hN1 : 1 ≤ p.N ∧ p.N ≤ 4096 := by omega
  obtain ⟨hN1, hN2⟩ := hN1
  have HO := Lib.hid ho
  by_cases hof : d.off = true
  ·have e1 : d.err k = 3 := by unfold Dk.err; rw [if_pos ho, if_pos hof]
   have e2 : d.read k = [] := by unfold Dk.read; rw [e1]; rfl
   rw [e1, e2]
   rw [hof] at c6
   clear hbx hfb hnb h hN hF hn ho hof e1 e2 c1 c3
   go_enter Tryz.func23, Tryz.ntmps23
   go_wp2_with fail
   refine (dk_has_rd w p d k H.out).mono ?_
   rintro e w1 ⟨rfl, rfl⟩
   rw [HO.out]
   go_wp2
   go_ret2
   exact RdOwn.none _ _
  ·rw [Bool.not_eq_true] at hof
   have hbl : k < (bls d.faults).length := by rw [bls_length]; omega
   have q0 := hfb.cell k hbl
   have hbg : (bls d.faults)[k] = .bool (d.bad k) := by
    unfold Dk.bad
    rw [bls_get, List.getD_eq_getElem?_getD, show ((k : Int)).toNat = k from by omega, List.getElem?_eq_getElem (by omega), Option.getD_some]
   rw [hbg] at q0
   rw [hof] at c6
   by_cases hb : d.bad k = true
   ·have e1 : d.err k = 4 := by unfold Dk.err; rw [if_pos ho, if_neg (by simp [hof]), if_pos hb]
    have e2 : d.read k = [] := by unfold Dk.read; rw [e1]; rfl
    rw [e1, e2]
    rw [hb] at q0
    clear hbx hfb hnb h hN hF hn ho hof e1 e2 c1 hbg hbl hb
    go_enter Tryz.func23, Tryz.ntmps23
    go_wp2_with fail
    refine (dk_has_rd w p d k H.out).mono ?_
    rintro e w1 ⟨rfl, rfl⟩
    rw [HO.out]
    go_wp2
    go_ret2
    exact RdOwn.none _ _
   ·rw [Bool.not_eq_true] at hb
    have e1 : d.err k = 0 := by unfold Dk.err; rw [if_pos ho, if_neg (by simp [hof]), if_neg (by simp [hb])]
    have e2 : d.read k = d.sector k := by unfold Dk.read; rw [if_pos e1]
    rw [e1, e2]
    rw [hb] at q0
    have hkl : k < d.now.length := by rw [Dk.now_length]; omega
    have hsec : d.sector k = d.now[k] := by
     unfold Dk.sector
     rw [List.getD_eq_getElem?_getD, show ((k : Int)).toNat = k from by omega, List.getElem?_eq_getElem hkl, Option.getD_some]
    have hrow := Row1.subrow (n := 0) (o := 64 * k) (m := 64) (c := 64) hnb (by rw [flat_length _ h.ok.now64, Dk.now_length]; omega) (Nat.le_refl _) (by simp [maxLen])
    rw [flat_cut _ h.ok.now64 k hkl, ← hsec, Nat.mul_comm 64 k] at hrow
    have hsl := Dk.sector_64 h.ok ho
    have HR := Lib.hid hrow
    clear hbx hfb hnb h hN hF hn ho hof e1 e2 hbg hbl hb hrow hsec hkl
    go_enter Tryz.func23, Tryz.ntmps23
    go_wp2_with fail
    refine (dk_has_rd w p d k H.out).mono ?_
    rintro e w1 ⟨rfl, rfl⟩
    rw [HO.out]
    go_wp2_with fail
    refine (clone_own ⟨p.n, k * 64, none⟩ 64 64 _ _ (by exact HR.out) (by decide)).mono ?_
    rintro e w1 ⟨v', rfl, hown, hO⟩
    have HF := Lib.hid hown
    have HO1 := Lib.hid hO
    rcases hown.2 with ⟨rfl, h0⟩ | ⟨g, cap, cur, rfl, _⟩
    ·exact absurd h0 (by decide)
    ·clear hown hO
     go_wp2
     go_ret2
     exact ⟨_, 64, rfl, HF.out, HO1.out⟩
 ·have e1 : d.err a = 1 := by unfold Dk.err; rw [if_neg ho]
  have e2 : d.read a = [] := by unfold Dk.read; rw [e1]; rfl
  rw [e1, e2]
  rw [Bool.not_eq_true] at ho
  have HO := Lib.hid ho
  clear hbx hfb hnb h hN hF hn ho e1 e2
  go_enter Tryz.func23, Tryz.ntmps23
  go_wp2_with fail
  refine (dk_has_rd w p d a H.out).mono ?_
  rintro e w1 ⟨rfl, rfl⟩
  rw [HO.out]
  go_wp2
  go_ret2
  exact RdOwn.none _ _
theorem _root_.Go.Kn.Wk.gadd {w0 wb w w' : World} {L : List (Nat × List Value)} {G : List Gs} {F : List (World → Prop)} (h : Wk w0 wb w L G F) (hO : Only [] w w') {e sz n : Nat} {v : Value} {xs : List Value} (ho : w'.ownsRow w.heap.size e sz v n xs) : Wk w0 wb w' L (⟨e, sz, v, n, xs⟩ :: G) F := h.to (h.toWc.gadd hO ho) (kb_only0 hO)
def ReadOwn (w0 wb : World) (S D gb : Nat) (p : Ps) (own : Bool) (e : Ps) (L : List (Nat × List Value)) (G : List Gs) (F : List (World → Prop)) (b : List UInt8) (er : Int) (en : Ending) (w' : World) : Prop :=
 ∃ A n c, en = .returned (.tuple #[.slice A n c, .bool (decide (er = 0))]) ∧ Wk w0 wb w' ((S, SB D gb p own e er) :: L) (⟨5, 1, .slice A n c, n, bvs b⟩ :: G) F
set_option maxRecDepth 100000 in
theorem scan_read_own {wb : World} (w0 w : World) (S gb : Nat) (pd : PD) (d : Dk) (p : Ps) (own : Bool) (e : Ps) (er : Int) (L : List (Nat × List Value)) (G : List Gs) (F : List (World → Prop)) (a : Int)
  (hw : Wk w0 wb w ((S, SB pd.D gb p own e er) :: L) G F) (hd : DkIn pd d L) :
  Calls Tryz.prog 183 #[.pointer (some ⟨S, 0, none⟩), .int .i64 a] w (ReadOwn w0 wb S pd.D gb p own e L G F (d.read a) (d.err a)) := by
 have hb := hw.boxi 0 rfl
 have c0 := hb.cell 0 (by simp [SB])
 simp only [SB, List.getElem_cons_zero] at c0
 have H := Lib.hid hw
 have HR := Lib.hid (hd.rd hw.own (fun x hx => List.mem_cons_of_mem _ hx))
 clear hw hb hd
 go_enter Tryz.func183, Tryz.ntmps183
 go_wp2_with fail
 refine (dk_read_own w pd d a HR.out).mono ?_
 rintro en w1 ⟨v, n, rfl, hown, hO⟩
 have hW := H.out.gadd hO hown
 obtain ⟨A, c, rfl⟩ := hW.gform 0 rfl
 have HW := Lib.hid hW
 have h13 := (HW.out.boxi 0 (p := S) rfl)
 have y0 := h13.cell 13 (by simp [SB])
 have f13 := h13.frozen 13
 simp only [SB, List.getElem_cons_zero, List.getElem_cons_succ] at y0
 have HE := Lib.hid (HW.out.put 0 (p := S) rfl 13 (.int .i64 (d.err a)))
 obtain ⟨z, hz⟩ : ∃ z, d.err a = z := ⟨_, rfl⟩
 rw [hz] at HE ⊢
 have HZ := Lib.hid hz
 clear hown hW hO h13 H HR hz
 by_cases h0 : z = 0
 ·subst h0
  go_wp2_with fail
  go_quiet (fail)
  go_wp2
  go_ret2
  rw [HZ.out]
  exact ⟨A, n, c, rfl, HE.out.drewN _⟩
 ·have h1 : (z == 0) = false := by simpa using h0
  go_wp2_with fail
  go_quiet (fail)
  go_wp2
  go_ret2
  rw [HZ.out]
  exact ⟨A, n, c, by rw [decide_eq_false h0]; rfl, HE.out.drewN _⟩
end Go.Proofs.YtgcfdjcpcclcjaaGreat
namespace Go.Kn
open Go Go.RowKit
section
variable {d : Dk} {c : Cf} {p : Ps} {a : Int} {n : Nat}
theorem follow_out (h : ¬ (1 ≤ p.o ∧ p.o ≤ c.l - 1)) : follow d c p = (none, 0) := if_neg h
theorem follow_err (h : 1 ≤ p.o ∧ p.o ≤ c.l - 1) (ha : c.at_ p.s + p.o = a) (he : d.err a ≠ 0) : follow d c p = (none, d.err a) := by
 unfold follow
 rw [if_pos h, ha, if_neg he]
theorem follow_size (h : 1 ≤ p.o ∧ p.o ≤ c.l - 1) (ha : c.at_ p.s + p.o = a) (he : d.err a = 0) (hn : sizeRc (d.read a) = n) (hs : n = 0 ∨ c.l < p.o + (n : Int)) : follow d c p = (none, 0) := by
 unfold follow
 rw [if_pos h, ha, if_pos he, hn, if_pos hs]
theorem follow_gerr (h : 1 ≤ p.o ∧ p.o ≤ c.l - 1) (ha : c.at_ p.s + p.o = a) (he : d.err a = 0) (hn : sizeRc (d.read a) = n) (hs : ¬ (n = 0 ∨ c.l < p.o + (n : Int))) (hg : gerr d a n ≠ 0) : follow d c p = (none, gerr d a n) := by
 unfold follow
 rw [if_pos h, ha, if_pos he, hn, if_neg hs, if_neg hg]
theorem follow_dec (h : 1 ≤ p.o ∧ p.o ≤ c.l - 1) (ha : c.at_ p.s + p.o = a) (he : d.err a = 0) (hn : sizeRc (d.read a) = n) (hs : ¬ (n = 0 ∨ c.l < p.o + (n : Int))) (hg : gerr d a n = 0) (hd : decRc (gat d a n) = none) : follow d c p = (none, 0) := by
 unfold follow
 rw [if_pos h, ha, if_pos he, hn, if_neg hs, if_pos hg, hd]
theorem follow_rec (h : 1 ≤ p.o ∧ p.o ≤ c.l - 1) (ha : c.at_ p.s + p.o = a) (he : d.err a = 0) (hn : sizeRc (d.read a) = n) (hs : ¬ (n = 0 ∨ c.l < p.o + (n : Int))) (hg : gerr d a n = 0) {r : Rc} {sum : Nat} (hd : decRc (gat d a n) = some (r, sum)) :
  follow d c p = if r.n = p.l ∧ r.p = p.p ∧ p.m ≤ r.m then (some (r, ⟨p.s, p.o + (n : Int), p.l + 1, (sum : Nat), r.m⟩), 0) else (none, 0) := by
 unfold follow
 rw [if_pos h, ha, if_pos he, hn, if_neg hs, if_pos hg, hd]
end
theorem sizeRc_le (b : List UInt8) : sizeRc b ≤ 7 := by
 unfold sizeRc
 split
 ·rename_i h
  have h2 := h.2
  unfold rcHd at h2
  simp only [Bool.and_eq_true, decide_eq_true_eq] at h2
  omega
 ·omega
end Go.Kn
namespace Go.Proofs.YtgcfdjcpcclcjaaGreat
open Go Go.RowKit Go.Kn
def OneSays (w0 wb : World) (S D gb : Nat) (p : Ps) (own : Bool) (e : Ps) (L : List (Nat × List Value)) (G : List Gs) (F : List (World → Prop)) (x : Option (Rc × Ps) × Int) (en : Ending) (w' : World) : Prop :=
 match x with
 | (none, er) => en = .returned (.tuple #[.agg #[.int .i64 0, .int .i64 0, .int .i64 0, .slice none 0 0, .slice none 0 0], .agg #[.int .i64 0, .int .i64 0, .int .i64 0, .int .i64 0, .int .i64 0], .bool false]) ∧ Wk w0 wb w' ((S, SB D gb p own e er) :: L) G F
 | (some (r, nx), _) => ∃ s t, en = .returned (.tuple #[.agg (r.cells s t), .agg #[.int .i64 nx.s, .int .i64 nx.o, .int .i64 nx.l, .int .i64 nx.p, .int .i64 nx.m], .bool true]) ∧ Wk w0 wb w' ((S, SB D gb p own e 0) :: L) G ((fun W => RcAt W r s t) :: F)
theorem OneSays.no {w0 wb w' : World} {S D gb : Nat} {p : Ps} {own : Bool} {e : Ps} {L : List (Nat × List Value)} {G : List Gs} {F : List (World → Prop)} {x : Option (Rc × Ps) × Int} {er : Int} (hx : x = (none, er)) (hw : Wk w0 wb w' ((S, SB D gb p own e er) :: L) G F) : OneSays w0 wb S D gb p own e L G F x (.returned (.tuple #[.agg #[.int .i64 0, .int .i64 0, .int .i64 0, .slice none 0 0, .slice none 0 0], .agg #[.int .i64 0, .int .i64 0, .int .i64 0, .int .i64 0, .int .i64 0], .bool false])) w' := by
 subst hx
 exact ⟨rfl, hw⟩
set_option maxRecDepth 100000 in
set_option maxHeartbeats 16000000 in
theorem scan_one_any {wb : World} (w0 w : World) (S gb : Nat) (pd : PD) (d : Dk) (cf : Cf) (p : Ps) (own : Bool) (e q : Ps) (L : List (Nat × List Value)) (G : List Gs) (F : List (World → Prop))
  (hw : Wk w0 wb w ((S, SB pd.D gb p own e 0) :: L) G F) (hd : DkIn pd d L) (hg : (fun W => GeoAt W gb cf.b cf.s cf.l) ∈ F) (hc : cf.Ok) (hqo : 1 ≤ q.o ∧ q.o ≤ 64) (hqs : 0 ≤ q.s ∧ q.s ≤ cf.s - 1) :
  Calls Tryz.prog 153 #[.pointer (some ⟨S, 0, none⟩), .agg #[.int .i64 q.s, .int .i64 q.o, .int .i64 q.l, .int .i64 q.p, .int .i64 q.m]] w (OneSays w0 wb S pd.D gb p own e L G F (Kn.follow d cf q)) := by
 have hres : Tryz.f153.results = #[.cell 4 56, .cell 5 32, .tmp 6] := by kernel_rfl
 have HRES := Lib.hid hres
 have HG := Lib.hid hg
 have HC := Lib.hid hc
 have HDK := Lib.hid hd
 have hat : 0 ≤ cf.at_ q.s ∧ cf.at_ q.s ≤ 100000 := by
  obtain ⟨m1, m2⟩ := Cf.prod cf hc q.s hqs.1 (by omega)
  have h1 := rln_bounds hc
  have h2 := pgs_bounds hc
  unfold Cf.at_
  rw [if_pos hqs]
  omega
 obtain ⟨ho0, ho1⟩ := hqo
 obtain ⟨hl0, hl1⟩ := hc.2.2
 have HW0 := Lib.hid ((((hw.newB #[.int .i64 q.s, .int .i64 q.o, .int .i64 q.l, .int .i64 q.p, .int .i64 q.m] 32 rfl).newB #[.int .i64 0, .int .i64 0, .int .i64 0, .slice none 0 0, .slice none 0 0] 56 rfl).newB #[.int .i64 0, .int .i64 0, .int .i64 0, .int .i64 0, .int .i64 0] 32 rfl).perm (List.perm_middle (l₁ := [_, _, _])) (List.Perm.refl _))
 clear hres hg hc hd hw
 go_enter Tryz.func153, Tryz.ntmps153
 go_wp2_with fail
 generalize hz1 : ((w.alloc (.cells #[.int .i64 q.s, .int .i64 q.o, .int .i64 q.l, .int .i64 q.p, .int .i64 q.m] 32)).alloc (.cells #[.int .i64 0, .int .i64 0, .int .i64 0, .slice none 0 0, .slice none 0 0] 56)).alloc (.cells #[.int .i64 0, .int .i64 0, .int .i64 0, .int .i64 0, .int .i64 0] 32) = w1 at *
 have hs1 : (w.alloc (.cells #[.int .i64 q.s, .int .i64 q.o, .int .i64 q.l, .int .i64 q.p, .int .i64 q.m] 32)).heap.size = w.heap.size + 1 := by simp
 have hs2 : ((w.alloc (.cells #[.int .i64 q.s, .int .i64 q.o, .int .i64 q.l, .int .i64 q.p, .int .i64 q.m] 32)).alloc (.cells #[.int .i64 0, .int .i64 0, .int .i64 0, .slice none 0 0, .slice none 0 0] 56)).heap.size = w.heap.size + 1 + 1 := by simp
 rw [hs1, hs2] at HW0
 clear hz1 hs1 hs2
 generalize w.heap.size = fq at *
 generalize fq + 1 = fr at *
 generalize fr + 1 = fn at *
 have HW1 : Hid (Wk w0 wb w1 ((S, SB pd.D gb p own e 0) :: (fn, [.int .i64 0, .int .i64 0, .int .i64 0, .int .i64 0, .int .i64 0]) :: (fr, [.int .i64 0, .int .i64 0, .int .i64 0, .slice none 0 0, .slice none 0 0]) :: (fq, [.int .i64 q.s, .int .i64 q.o, .int .i64 q.l, .int .i64 q.p, .int .i64 q.m]) :: L) G F) := Lib.hid HW0.out
 clear HW0
 have hfl := field_cfg2 cf.b cf.s cf.l
 have hw3 := IntWalk.i64_in (cf.at_ q.s + q.o) (by omega)
 obtain ⟨a, ha⟩ : ∃ a, cf.at_ q.s + q.o = a := ⟨_, rfl⟩
 have hab : 0 ≤ a ∧ a ≤ 200000 := by omega
 have HA := Lib.hid ha
 obtain ⟨ha0, ha1⟩ := hab
 obtain ⟨sa, hsa⟩ : ∃ z, cf.at_ q.s = z := ⟨_, rfl⟩
 have HSA := Lib.hid hsa
 rw [hsa] at hw3 hat ha
 have hw4 : IntKind.i64.wrap (sa + q.o) = a := by rw [hw3, ha]
 obtain ⟨hat0, hat1⟩ := hat
 clear ha hsa hw3
 go_wp2_with fail
 have HY := Lib.hid HW1.out.drew
 clear HW1
 refine wp_region_held_drew (S := (fun w' => Kn.Own w' fq [.int .i64 q.s, .int .i64 q.o, .int .i64 q.l, .int .i64 q.p, .int .i64 q.m] ∧ w'.cell? ⟨S, 1, none⟩ = some (.pointer (some ⟨gb, 0, none⟩)))) (by kernel_rfl) ⟨HY.out.boxi 3 rfl, by simpa [SB] using (HY.out.boxi 0 (p := S) rfl).cell 1 (by simp [SB])⟩ (fun hSw0 => ?_)
 generalize w1.drew = wz at *
 refine Kn.takeS 0 ⟨some 15, _, _, _, _, _⟩ ?_
 refine Kn.takeS 1 ⟨some 16, _, _, _, _, _⟩ (v := (.int .i64 q.o)) (hy := fun w hSw => by
  have q0 := hSw.1.cell 1 (by simp)
  simp only [List.getElem_cons_zero, List.getElem_cons_succ] at q0
  go_simp) ?_
 refine Kn.takeS 2 ⟨some 17, _, _, _, _, _⟩ ?_
 refine Kn.takeS 3 ⟨some 18, _, _, _, _, _⟩ ?_
 refine Kn.takeS 4 ⟨some 19, _, _, _, _, _⟩ ?_
 refine Kn.takeS 5 ⟨some 20, _, _, _, _, _⟩ ?_
 refine Kn.takeR 6 ⟨some 21, _, _, _, _, _⟩ fun K hK => ?_
 go_simp
 refine (geom_config_any gb cf.b cf.s cf.l _ (HY.out.fact (fun W => GeoAt W gb cf.b cf.s cf.l) HG.out)).mono ?_
 rintro en w2 ⟨rfl, hO⟩
 have HW2 := Lib.hid (HY.out.keep0 hO)
 clear hO HY
 refine hK.out _ _ ⟨HW2.out.boxi 3 rfl, by simpa [SB] using (HW2.out.boxi 0 (p := S) rfl).cell 1 (by simp [SB])⟩ (fun hSn => ?_)
 clear hK K hSw0
 have hSw0 := hSn
 clear hSn
 refine Kn.takeS 7 ⟨some 22, _, _, _, _, _⟩ ?_
 refine Kn.takeS 8 ⟨some 23, _, _, _, _, _⟩ ?_
 refine wpAnyH_done (by kernel_rfl) ?_ _
 clear hSw0
 by_cases hfar : cf.l ≤ q.o
 ·have hfar2 : q.o ≥ cf.l := hfar
  go_wp2_with fail
  have HY := Lib.hid HW2.out.drew
  clear HW2
  refine wp_region_held_drew (S := (fun w' => Kn.Own w' fr [.int .i64 0, .int .i64 0, .int .i64 0, .slice none 0 0, .slice none 0 0] ∧ Kn.Own w' fn [.int .i64 0, .int .i64 0, .int .i64 0, .int .i64 0, .int .i64 0])) (by kernel_rfl) ⟨HY.out.boxi 2 rfl, HY.out.boxi 1 rfl⟩ (fun hSw0 => ?_)
  generalize w2.drew = wz at *
  refine Kn.takeS 0 ⟨some 24, _, _, _, _, _⟩ (v := (.agg #[.int .i64 0, .int .i64 0, .int .i64 0, .slice none 0 0, .slice none 0 0])) (hy := fun w hSw => by
   have q0 := hSw.1
   obtain ⟨q00, q01, q02, q03, q04⟩ := Kn.own5 q0
   clear q0
   go_simp) ?_
  refine Kn.takeS 1 ⟨some 25, _, _, _, _, _⟩ (v := (.agg #[.int .i64 0, .int .i64 0, .int .i64 0, .int .i64 0, .int .i64 0])) (hy := fun w hSw => by
   have q0 := hSw.2
   obtain ⟨q00, q01, q02, q03, q04⟩ := Kn.own5 q0
   clear q0
   go_simp) ?_
  refine Kn.takeR 2 ⟨none, _, _, _, _, _⟩ fun K hK => ?_
  refine step_store_own rfl 56 (.tmp 4) (.tmp 24) rfl fr [.int .i64 0, .int .i64 0, .int .i64 0, .slice none 0 0, .slice none 0 0] [.int .i64 0, .int .i64 0, .int .i64 0, .slice none 0 0, .slice none 0 0] (by kernel_rfl) rfl rfl (HY.out.boxi 2 rfl) rfl (by intro u hu; simp at hu; rcases hu with rfl | rfl <;> rfl) ?_
  intro wa ho hO
  have HY1 := Lib.hid (HY.out.call1 2 rfl ho hO)
  clear ho hO HY
  refine hK.out _ _ ⟨HY1.out.boxi 2 rfl, HY1.out.boxi 1 rfl⟩ (fun hSn => ?_)
  clear hK K hSw0
  have hSw0 := hSn
  clear hSn
  refine Kn.takeR 3 ⟨none, _, _, _, _, _⟩ fun K hK => ?_
  refine step_store_own rfl 32 (.tmp 5) (.tmp 25) rfl fn [.int .i64 0, .int .i64 0, .int .i64 0, .int .i64 0, .int .i64 0] [.int .i64 0, .int .i64 0, .int .i64 0, .int .i64 0, .int .i64 0] (by kernel_rfl) rfl rfl (HY1.out.boxi 1 rfl) rfl (by intro u hu; simp at hu; subst hu; rfl) ?_
  intro wy ho hO
  have HY2 := Lib.hid (HY1.out.call1 1 rfl ho hO)
  clear ho hO HY1
  refine hK.out _ _ ⟨HY2.out.boxi 2 rfl, HY2.out.boxi 1 rfl⟩ (fun hSn => ?_)
  clear hK K hSw0
  have hSw0 := hSn
  clear hSn
  refine Kn.takeS 4 ⟨some 6, _, _, _, _, _⟩ ?_
  refine wpAnyH_done (by kernel_rfl) ?_ _
  clear hSw0
  have HFOL := Lib.hid (follow_out (d := d) (c := cf) (p := q) (by omega))
  have br := HY2.out.boxi 2 rfl
  have bn := HY2.out.boxi 1 rfl
  obtain ⟨r0, r1, r2, r3, r4⟩ := Kn.own5 br
  obtain ⟨n0, n1, n2, n3, n4⟩ := Kn.own5 bn
  clear br bn
  go_wp2
  (try simp only [Exit.inBlock, Exit.then])
  refine bodyPost_ret (v := .tuple #[.agg #[.int .i64 0, .int .i64 0, .int .i64 0, .slice none 0 0, .slice none 0 0], .agg #[.int .i64 0, .int .i64 0, .int .i64 0, .int .i64 0, .int .i64 0], .bool false]) ?_ rfl ?_
  ·simp only [results, HRES.out]
   go_simp
  ·have HYs : Wk w0 wb wy ((S, SB pd.D gb p own e 0) :: (fn, [.int .i64 0, .int .i64 0, .int .i64 0, .int .i64 0, .int .i64 0]) :: (fr, [.int .i64 0, .int .i64 0, .int .i64 0, .slice none 0 0, .slice none 0 0]) :: (fq, [.int .i64 q.s, .int .i64 q.o, .int .i64 q.l, .int .i64 q.p, .int .i64 q.m]) :: L) G F := HY2.out
   exact OneSays.no HFOL.out ((HYs.sub (L' := (S, SB pd.D gb p own e 0) :: L) (F' := F) (.cons_cons _ (.cons _ (.cons _ (.cons _ (List.Sublist.refl _))))) (fun f hf => hf)).subG (G' := G) (by simp))
 ·go_wp2_with fail
  have HY := Lib.hid HW2.out.drew
  clear HW2
  refine wp_region_held_drew (S := (fun w' => Kn.Own w' fq [.int .i64 q.s, .int .i64 q.o, .int .i64 q.l, .int .i64 q.p, .int .i64 q.m] ∧ w'.cell? ⟨S, 1, none⟩ = some (.pointer (some ⟨gb, 0, none⟩)))) (by kernel_rfl) ⟨HY.out.boxi 3 rfl, by simpa [SB] using (HY.out.boxi 0 (p := S) rfl).cell 1 (by simp [SB])⟩ (fun hSw0 => ?_)
  generalize w2.drew = wz at *
  refine Kn.takeS 0 ⟨some 26, _, _, _, _, _⟩ ?_
  refine Kn.takeS 1 ⟨some 27, _, _, _, _, _⟩ ?_
  refine Kn.takeS 2 ⟨some 28, _, _, _, _, _⟩ ?_
  refine Kn.takeS 3 ⟨some 29, _, _, _, _, _⟩ ?_
  refine Kn.takeS 4 ⟨some 30, _, _, _, _, _⟩ ?_
  refine Kn.takeS 5 ⟨some 31, _, _, _, _, _⟩ (v := (.int .i64 q.s)) (hy := fun w hSw => by
   have q0 := Kn.own1 hSw.1
   go_simp) ?_
  refine Kn.takeS 7 ⟨some 33, _, _, _, _, _⟩ ?_
  refine Kn.takeS 8 ⟨some 34, _, _, _, _, _⟩ (v := (.int .i64 q.o)) (hy := fun w hSw => by
   have q0 := hSw.1.cell 1 (by simp)
   simp only [List.getElem_cons_zero, List.getElem_cons_succ] at q0
   go_simp) ?_
  refine Kn.takeR 6 ⟨some 32, _, _, _, _, _⟩ fun K hK => ?_
  go_simp
  refine (geom_seg_any gb cf q.s _ (HY.out.fact (fun W => GeoAt W gb cf.b cf.s cf.l) HG.out) HC.out).mono ?_
  rintro en w3 ⟨rfl, hO⟩
  rw [HSA.out]
  have HW3 := Lib.hid (HY.out.keep0 hO)
  clear hO HY
  refine hK.out _ _ ⟨HW3.out.boxi 3 rfl, by simpa [SB] using (HW3.out.boxi 0 (p := S) rfl).cell 1 (by simp [SB])⟩ (fun hSn => ?_)
  clear hK K hSw0
  have hSw0 := hSn
  clear hSn
  refine Kn.takeS 9 ⟨some 35, _, _, _, _, _⟩ ?_
  refine Kn.takeS 10 ⟨some 7, _, _, _, _, _⟩ ?_
  refine wpAnyH_done (by kernel_rfl) ?_ _
  clear hSw0
  go_wp2_with fail
  refine (scan_read_own w0 _ S gb pd d p own e 0 _ G F a HW3.out (HDK.out.mono (fun x hx => by simp [hx]))).mono ?_
  rintro en w4 ⟨A, n, cc, rfl, hrd⟩
  have HW4 := Lib.hid hrd
  clear hrd HW3
  have hbo := (Row1.of_owns (HW4.out.gi 0 rfl)).1
  have hnl := hbo.len
  rw [bvs_length] at hnl
  have hn64 : n ≤ 65536 := by rw [← hnl, Dk.read_len HDK.out.ok]; split <;> omega
  have HBO := Lib.hid hbo
  have HNL := Lib.hid hnl
  obtain ⟨z, hz⟩ : ∃ z, d.err a = z := ⟨_, rfl⟩
  rw [hz] at HW4 ⊢
  have HZ := Lib.hid hz
  clear hbo hnl hz
  go_wp2_with fail
  refine (rec_size_any A n cc _ _ HBO.out hn64).mono ?_
  rintro en w5 ⟨rfl, hO⟩
  have HW5 := Lib.hid (HW4.out.keep0 hO)
  clear hO HW4 HBO
  obtain ⟨N, hN⟩ : ∃ N, sizeRc (d.read a) = N := ⟨_, rfl⟩
  have hN7 : N ≤ 7 := by rw [← hN]; exact sizeRc_le _
  rw [hN]
  have HN := Lib.hid hN
  clear hN
  go_wp2_with fail
  have HQ6 := Lib.hid HW5.out.drew
  clear HW5
  refine wp_region_held_drew (S := (fun w' => Kn.Own w' fq [.int .i64 q.s, .int .i64 q.o, .int .i64 q.l, .int .i64 q.p, .int .i64 q.m] ∧ w'.cell? ⟨S, 1, none⟩ = some (.pointer (some ⟨gb, 0, none⟩)))) (by kernel_rfl) ⟨HQ6.out.boxi 3 rfl, by simpa [SB] using (HQ6.out.boxi 0 (p := S) rfl).cell 1 (by simp [SB])⟩ (fun hSw7 => ?_)
  generalize w5.drew = v7 at *
  by_cases hz0 : z = 0
  ·subst hz0
   by_cases hN0 : N = 0
   ·subst hN0
    refine Kn.takeS 0 ⟨some 44, _, _, _, _, _⟩ (hy := fun w hSw => by
     (try dsimp only at hSw); have q0 := hSw.1.cell 1 (by simp); have q2 := hSw.2; simp only [List.getElem_cons_zero, List.getElem_cons_succ] at q0
     go_simp
     all_goals (try with_reducible rfl)) ?_
    refine Kn.takeS 1 ⟨some 45, _, _, _, _, _⟩ (hy := fun w hSw => by
     (try dsimp only at hSw); have q0 := hSw.1.cell 1 (by simp); have q2 := hSw.2; simp only [List.getElem_cons_zero, List.getElem_cons_succ] at q0
     go_simp
     all_goals (try with_reducible rfl)) ?_
    refine Kn.takeS 2 ⟨some 46, _, _, _, _, _⟩ (hy := fun w hSw => by
     (try dsimp only at hSw); have q0 := hSw.1.cell 1 (by simp); have q2 := hSw.2; simp only [List.getElem_cons_zero, List.getElem_cons_succ] at q0
     go_simp
     all_goals (try with_reducible rfl)) ?_
    refine Kn.takeS 3 ⟨some 47, _, _, _, _, _⟩ (hy := fun w hSw => by
     (try dsimp only at hSw); have q0 := hSw.1.cell 1 (by simp); have q2 := hSw.2; simp only [List.getElem_cons_zero, List.getElem_cons_succ] at q0
     go_simp
     all_goals (try with_reducible rfl)) ?_
    refine Kn.takeS 4 ⟨some 48, _, _, _, _, _⟩ (hy := fun w hSw => by
     (try dsimp only at hSw); have q0 := hSw.1.cell 1 (by simp); have q2 := hSw.2; simp only [List.getElem_cons_zero, List.getElem_cons_succ] at q0
     go_simp
     all_goals (try with_reducible rfl)) ?_
    refine Kn.takeS 5 ⟨some 49, _, _, _, _, _⟩ (hy := fun w hSw => by
     (try dsimp only at hSw); have q0 := hSw.1.cell 1 (by simp); have q2 := hSw.2; simp only [List.getElem_cons_zero, List.getElem_cons_succ] at q0
     go_simp
     all_goals (try with_reducible rfl)) ?_
    refine Kn.takeS 6 ⟨some 50, _, _, _, _, _⟩ (hy := fun w hSw => by
     (try dsimp only at hSw); have q0 := hSw.1.cell 1 (by simp); have q2 := hSw.2; simp only [List.getElem_cons_zero, List.getElem_cons_succ] at q0
     go_simp
     all_goals (try with_reducible rfl)) ?_
    refine Kn.takeN 7 ⟨some 51, _, _, _, _, _⟩ ?_
    refine Kn.takeN 8 ⟨some 52, _, _, _, _, _⟩ ?_
    refine Kn.takeN 9 ⟨some 53, _, _, _, _, _⟩ ?_
    refine Kn.takeN 10 ⟨some 54, _, _, _, _, _⟩ ?_
    refine Kn.takeN 11 ⟨some 55, _, _, _, _, _⟩ ?_
    refine Kn.takeN 12 ⟨some 56, _, _, _, _, _⟩ ?_
    refine Kn.takeN 13 ⟨some 57, _, _, _, _, _⟩ ?_
    refine Kn.takeN 14 ⟨some 58, _, _, _, _, _⟩ ?_
    refine Kn.takeN 15 ⟨some 59, _, _, _, _, _⟩ ?_
    refine Kn.takeN 16 ⟨some 60, _, _, _, _, _⟩ ?_
    refine Kn.takeN 17 ⟨some 61, _, _, _, _, _⟩ ?_
    refine Kn.takeS 18 ⟨some 62, _, _, _, _, _⟩ (hy := fun w hSw => by
     (try dsimp only at hSw); have q0 := hSw.1.cell 1 (by simp); have q2 := hSw.2; simp only [List.getElem_cons_zero, List.getElem_cons_succ] at q0
     go_simp
     all_goals (try with_reducible rfl)) ?_
    refine wpAnyH_done (by kernel_rfl) ?_ _
    clear hSw7
    go_wp2_with fail
    have HY := Lib.hid HQ6.out.drew
    clear HQ6
    refine wp_region_held_drew (S := (fun w' => Kn.Own w' fr [.int .i64 0, .int .i64 0, .int .i64 0, .slice none 0 0, .slice none 0 0] ∧ Kn.Own w' fn [.int .i64 0, .int .i64 0, .int .i64 0, .int .i64 0, .int .i64 0])) (by kernel_rfl) ⟨HY.out.boxi 2 rfl, HY.out.boxi 1 rfl⟩ (fun hSw0 => ?_)
    generalize v7.drew = wz at *
    refine Kn.takeS 0 ⟨some 63, _, _, _, _, _⟩ (v := (.agg #[.int .i64 0, .int .i64 0, .int .i64 0, .slice none 0 0, .slice none 0 0])) (hy := fun w hSw => by
     have q0 := hSw.1
     obtain ⟨q00, q01, q02, q03, q04⟩ := Kn.own5 q0
     clear q0
     go_simp) ?_
    refine Kn.takeS 1 ⟨some 64, _, _, _, _, _⟩ (v := (.agg #[.int .i64 0, .int .i64 0, .int .i64 0, .int .i64 0, .int .i64 0])) (hy := fun w hSw => by
     have q0 := hSw.2
     obtain ⟨q00, q01, q02, q03, q04⟩ := Kn.own5 q0
     clear q0
     go_simp) ?_
    refine Kn.takeR 2 ⟨none, _, _, _, _, _⟩ fun K hK => ?_
    refine step_store_own rfl 56 (.tmp 4) (.tmp 63) rfl fr [.int .i64 0, .int .i64 0, .int .i64 0, .slice none 0 0, .slice none 0 0] [.int .i64 0, .int .i64 0, .int .i64 0, .slice none 0 0, .slice none 0 0] (by kernel_rfl) rfl rfl (HY.out.boxi 2 rfl) rfl (by intro u hu; simp at hu; rcases hu with rfl | rfl <;> rfl) ?_
    intro wa ho hO
    have HY1 := Lib.hid (HY.out.call1 2 rfl ho hO)
    clear ho hO HY
    refine hK.out _ _ ⟨HY1.out.boxi 2 rfl, HY1.out.boxi 1 rfl⟩ (fun hSn => ?_)
    clear hK K hSw0
    have hSw0 := hSn
    clear hSn
    refine Kn.takeR 3 ⟨none, _, _, _, _, _⟩ fun K hK => ?_
    refine step_store_own rfl 32 (.tmp 5) (.tmp 64) rfl fn [.int .i64 0, .int .i64 0, .int .i64 0, .int .i64 0, .int .i64 0] [.int .i64 0, .int .i64 0, .int .i64 0, .int .i64 0, .int .i64 0] (by kernel_rfl) rfl rfl (HY1.out.boxi 1 rfl) rfl (by intro u hu; simp at hu; subst hu; rfl) ?_
    intro wy ho hO
    have HY2 := Lib.hid (HY1.out.call1 1 rfl ho hO)
    clear ho hO HY1
    refine hK.out _ _ ⟨HY2.out.boxi 2 rfl, HY2.out.boxi 1 rfl⟩ (fun hSn => ?_)
    clear hK K hSw0
    have hSw0 := hSn
    clear hSn
    refine Kn.takeS 4 ⟨some 6, _, _, _, _, _⟩ ?_
    refine wpAnyH_done (by kernel_rfl) ?_ _
    clear hSw0
    have HFOL := Lib.hid (follow_size (d := d) (c := cf) (p := q) ⟨ho0, by omega⟩ HA.out HZ.out HN.out (.inl rfl))
    have br := HY2.out.boxi 2 rfl
    have bn := HY2.out.boxi 1 rfl
    obtain ⟨r0, r1, r2, r3, r4⟩ := Kn.own5 br
    obtain ⟨n0, n1, n2, n3, n4⟩ := Kn.own5 bn
    clear br bn
    go_wp2
    (try simp only [Exit.inBlock, Exit.then])
    refine bodyPost_ret (v := .tuple #[.agg #[.int .i64 0, .int .i64 0, .int .i64 0, .slice none 0 0, .slice none 0 0], .agg #[.int .i64 0, .int .i64 0, .int .i64 0, .int .i64 0, .int .i64 0], .bool false]) ?_ rfl ?_
    ·simp only [results, HRES.out]
     go_simp
    ·have HYs : Wk w0 wb wy ((S, SB pd.D gb p own e 0) :: (fn, [.int .i64 0, .int .i64 0, .int .i64 0, .int .i64 0, .int .i64 0]) :: (fr, [.int .i64 0, .int .i64 0, .int .i64 0, .slice none 0 0, .slice none 0 0]) :: (fq, [.int .i64 q.s, .int .i64 q.o, .int .i64 q.l, .int .i64 q.p, .int .i64 q.m]) :: L) (_ :: G) F := HY2.out
     exact OneSays.no HFOL.out ((HYs.sub (L' := (S, SB pd.D gb p own e 0) :: L) (F' := F) (.cons_cons _ (.cons _ (.cons _ (.cons _ (List.Sublist.refl _))))) (fun f hf => hf)).subG (G' := G) (by simp))
   ·have hN1 : ((N : Int) == 0) = false := by simp; omega
    have hwN := IntWalk.i64_in (q.o + (N : Int)) (by omega)
    by_cases hfar2 : cf.l < q.o + (N : Int)
    ·refine Kn.takeS 0 ⟨some 44, _, _, _, _, _⟩ (hy := fun w hSw => by
      (try dsimp only at hSw); have q0 := hSw.1.cell 1 (by simp); have q2 := hSw.2; simp only [List.getElem_cons_zero, List.getElem_cons_succ] at q0
      go_simp
      all_goals (try with_reducible rfl)) ?_
     refine Kn.takeS 1 ⟨some 45, _, _, _, _, _⟩ (hy := fun w hSw => by
      (try dsimp only at hSw); have q0 := hSw.1.cell 1 (by simp); have q2 := hSw.2; simp only [List.getElem_cons_zero, List.getElem_cons_succ] at q0
      go_simp
      all_goals (try with_reducible rfl)) ?_
     refine Kn.takeS 2 ⟨some 46, _, _, _, _, _⟩ (hy := fun w hSw => by
      (try dsimp only at hSw); have q0 := hSw.1.cell 1 (by simp); have q2 := hSw.2; simp only [List.getElem_cons_zero, List.getElem_cons_succ] at q0
      go_simp
      all_goals (try with_reducible rfl)) ?_
     refine Kn.takeS 3 ⟨some 47, _, _, _, _, _⟩ (hy := fun w hSw => by
      (try dsimp only at hSw); have q0 := hSw.1.cell 1 (by simp); have q2 := hSw.2; simp only [List.getElem_cons_zero, List.getElem_cons_succ] at q0
      go_simp
      all_goals (try with_reducible rfl)) ?_
     refine Kn.takeS 4 ⟨some 48, _, _, _, _, _⟩ (hy := fun w hSw => by
      (try dsimp only at hSw); have q0 := hSw.1.cell 1 (by simp); have q2 := hSw.2; simp only [List.getElem_cons_zero, List.getElem_cons_succ] at q0
      go_simp
      all_goals (try with_reducible rfl)) ?_
     refine Kn.takeS 5 ⟨some 49, _, _, _, _, _⟩ (hy := fun w hSw => by
      (try dsimp only at hSw); have q0 := hSw.1.cell 1 (by simp); have q2 := hSw.2; simp only [List.getElem_cons_zero, List.getElem_cons_succ] at q0
      go_simp
      all_goals (try with_reducible rfl)) ?_
     refine Kn.takeS 6 ⟨some 50, _, _, _, _, _⟩ (hy := fun w hSw => by
      (try dsimp only at hSw); have q0 := hSw.1.cell 1 (by simp); have q2 := hSw.2; simp only [List.getElem_cons_zero, List.getElem_cons_succ] at q0
      go_simp
      all_goals (try with_reducible rfl)) ?_
     refine Kn.takeS 7 ⟨some 51, _, _, _, _, _⟩ (hy := fun w hSw => by
      (try dsimp only at hSw); have q0 := hSw.1.cell 1 (by simp); have q2 := hSw.2; simp only [List.getElem_cons_zero, List.getElem_cons_succ] at q0
      go_simp
      all_goals (try with_reducible rfl)) ?_
     refine Kn.takeS 8 ⟨some 52, _, _, _, _, _⟩ (hy := fun w hSw => by
      (try dsimp only at hSw); have q0 := hSw.1.cell 1 (by simp); have q2 := hSw.2; simp only [List.getElem_cons_zero, List.getElem_cons_succ] at q0
      go_simp
      all_goals (try with_reducible rfl)) ?_
     refine Kn.takeS 9 ⟨some 53, _, _, _, _, _⟩ (hy := fun w hSw => by
      (try dsimp only at hSw); have q0 := hSw.1.cell 1 (by simp); have q2 := hSw.2; simp only [List.getElem_cons_zero, List.getElem_cons_succ] at q0
      go_simp
      all_goals (try with_reducible rfl)) ?_
     refine Kn.takeS 10 ⟨some 54, _, _, _, _, _⟩ (hy := fun w hSw => by
      (try dsimp only at hSw); have q0 := hSw.1.cell 1 (by simp); have q2 := hSw.2; simp only [List.getElem_cons_zero, List.getElem_cons_succ] at q0
      go_simp
      all_goals (try with_reducible rfl)) ?_
     refine Kn.takeS 11 ⟨some 55, _, _, _, _, _⟩ (hy := fun w hSw => by
      (try dsimp only at hSw); have q0 := hSw.1.cell 1 (by simp); have q2 := hSw.2; simp only [List.getElem_cons_zero, List.getElem_cons_succ] at q0
      go_simp
      all_goals (try with_reducible rfl)) ?_
     refine Kn.takeS 12 ⟨some 56, _, _, _, _, _⟩ (hy := fun w hSw => by
      (try dsimp only at hSw); have q0 := hSw.1.cell 1 (by simp); have q2 := hSw.2; simp only [List.getElem_cons_zero, List.getElem_cons_succ] at q0
      go_simp
      all_goals (try with_reducible rfl)) ?_
     refine Kn.takeS 13 ⟨some 57, _, _, _, _, _⟩ (hy := fun w hSw => by
      (try dsimp only at hSw); have q0 := hSw.1.cell 1 (by simp); have q2 := hSw.2; simp only [List.getElem_cons_zero, List.getElem_cons_succ] at q0
      go_simp
      all_goals (try with_reducible rfl)) ?_
     refine Kn.takeS 14 ⟨some 58, _, _, _, _, _⟩ (hy := fun w hSw => by
      (try dsimp only at hSw); have q0 := hSw.1.cell 1 (by simp); have q2 := hSw.2; simp only [List.getElem_cons_zero, List.getElem_cons_succ] at q0
      go_simp
      all_goals (try with_reducible rfl)) ?_
     refine Kn.takeR 15 ⟨some 59, _, _, _, _, _⟩ fun K hK => ?_
     go_simp
     refine (geom_config_any gb cf.b cf.s cf.l _ (HQ6.out.fact (fun W => GeoAt W gb cf.b cf.s cf.l) HG.out)).mono ?_
     rintro en v8 ⟨rfl, hO⟩
     have HQ7 := Lib.hid (HQ6.out.keep0 hO)
     clear hO HQ6
     have HQ6 := Lib.hid HQ7.out
     clear HQ7
     refine hK.out _ _ ⟨HQ6.out.boxi 3 rfl, by simpa [SB] using (HQ6.out.boxi 0 (p := S) rfl).cell 1 (by simp [SB])⟩ (fun hSw8 => ?_)
     clear hK K
     clear hSw7
     refine Kn.takeS 16 ⟨some 60, _, _, _, _, _⟩ (hy := fun w hSw => by
      (try dsimp only at hSw); have q0 := hSw.1.cell 1 (by simp); have q2 := hSw.2; simp only [List.getElem_cons_zero, List.getElem_cons_succ] at q0
      go_simp
      all_goals (try with_reducible rfl)) ?_
     refine Kn.takeS 17 ⟨some 61, _, _, _, _, _⟩ (hy := fun w hSw => by
      (try dsimp only at hSw); have q0 := hSw.1.cell 1 (by simp); have q2 := hSw.2; simp only [List.getElem_cons_zero, List.getElem_cons_succ] at q0
      go_simp
      all_goals (try with_reducible rfl)) ?_
     refine Kn.takeS 18 ⟨some 62, _, _, _, _, _⟩ (hy := fun w hSw => by
      (try dsimp only at hSw); have q0 := hSw.1.cell 1 (by simp); have q2 := hSw.2; simp only [List.getElem_cons_zero, List.getElem_cons_succ] at q0
      go_simp
      all_goals (try with_reducible rfl)) ?_
     refine wpAnyH_done (by kernel_rfl) ?_ _
     clear hSw8
     go_wp2_with fail
     have HY := Lib.hid HQ6.out.drew
     clear HQ6
     refine wp_region_held_drew (S := (fun w' => Kn.Own w' fr [.int .i64 0, .int .i64 0, .int .i64 0, .slice none 0 0, .slice none 0 0] ∧ Kn.Own w' fn [.int .i64 0, .int .i64 0, .int .i64 0, .int .i64 0, .int .i64 0])) (by kernel_rfl) ⟨HY.out.boxi 2 rfl, HY.out.boxi 1 rfl⟩ (fun hSw0 => ?_)
     generalize v8.drew = wz at *
     refine Kn.takeS 0 ⟨some 63, _, _, _, _, _⟩ (v := (.agg #[.int .i64 0, .int .i64 0, .int .i64 0, .slice none 0 0, .slice none 0 0])) (hy := fun w hSw => by
      have q0 := hSw.1
      obtain ⟨q00, q01, q02, q03, q04⟩ := Kn.own5 q0
      clear q0
      go_simp) ?_
     refine Kn.takeS 1 ⟨some 64, _, _, _, _, _⟩ (v := (.agg #[.int .i64 0, .int .i64 0, .int .i64 0, .int .i64 0, .int .i64 0])) (hy := fun w hSw => by
      have q0 := hSw.2
      obtain ⟨q00, q01, q02, q03, q04⟩ := Kn.own5 q0
      clear q0
      go_simp) ?_
     refine Kn.takeR 2 ⟨none, _, _, _, _, _⟩ fun K hK => ?_
     refine step_store_own rfl 56 (.tmp 4) (.tmp 63) rfl fr [.int .i64 0, .int .i64 0, .int .i64 0, .slice none 0 0, .slice none 0 0] [.int .i64 0, .int .i64 0, .int .i64 0, .slice none 0 0, .slice none 0 0] (by kernel_rfl) rfl rfl (HY.out.boxi 2 rfl) rfl (by intro u hu; simp at hu; rcases hu with rfl | rfl <;> rfl) ?_
     intro wa ho hO
     have HY1 := Lib.hid (HY.out.call1 2 rfl ho hO)
     clear ho hO HY
     refine hK.out _ _ ⟨HY1.out.boxi 2 rfl, HY1.out.boxi 1 rfl⟩ (fun hSn => ?_)
     clear hK K hSw0
     have hSw0 := hSn
     clear hSn
     refine Kn.takeR 3 ⟨none, _, _, _, _, _⟩ fun K hK => ?_
     refine step_store_own rfl 32 (.tmp 5) (.tmp 64) rfl fn [.int .i64 0, .int .i64 0, .int .i64 0, .int .i64 0, .int .i64 0] [.int .i64 0, .int .i64 0, .int .i64 0, .int .i64 0, .int .i64 0] (by kernel_rfl) rfl rfl (HY1.out.boxi 1 rfl) rfl (by intro u hu; simp at hu; subst hu; rfl) ?_
     intro wy ho hO
     have HY2 := Lib.hid (HY1.out.call1 1 rfl ho hO)
     clear ho hO HY1
     refine hK.out _ _ ⟨HY2.out.boxi 2 rfl, HY2.out.boxi 1 rfl⟩ (fun hSn => ?_)
     clear hK K hSw0
     have hSw0 := hSn
     clear hSn
     refine Kn.takeS 4 ⟨some 6, _, _, _, _, _⟩ ?_
     refine wpAnyH_done (by kernel_rfl) ?_ _
     clear hSw0
     have HFOL := Lib.hid (follow_size (d := d) (c := cf) (p := q) ⟨ho0, by omega⟩ HA.out HZ.out HN.out (.inr hfar2))
     have br := HY2.out.boxi 2 rfl
     have bn := HY2.out.boxi 1 rfl
     obtain ⟨r0, r1, r2, r3, r4⟩ := Kn.own5 br
     obtain ⟨n0, n1, n2, n3, n4⟩ := Kn.own5 bn
     clear br bn
     go_wp2
     (try simp only [Exit.inBlock, Exit.then])
     refine bodyPost_ret (v := .tuple #[.agg #[.int .i64 0, .int .i64 0, .int .i64 0, .slice none 0 0, .slice none 0 0], .agg #[.int .i64 0, .int .i64 0, .int .i64 0, .int .i64 0, .int .i64 0], .bool false]) ?_ rfl ?_
     ·simp only [results, HRES.out]
      go_simp
     ·have HYs : Wk w0 wb wy ((S, SB pd.D gb p own e 0) :: (fn, [.int .i64 0, .int .i64 0, .int .i64 0, .int .i64 0, .int .i64 0]) :: (fr, [.int .i64 0, .int .i64 0, .int .i64 0, .slice none 0 0, .slice none 0 0]) :: (fq, [.int .i64 q.s, .int .i64 q.o, .int .i64 q.l, .int .i64 q.p, .int .i64 q.m]) :: L) (_ :: G) F := HY2.out
      exact OneSays.no HFOL.out ((HYs.sub (L' := (S, SB pd.D gb p own e 0) :: L) (F' := F) (.cons_cons _ (.cons _ (.cons _ (.cons _ (List.Sublist.refl _))))) (fun f hf => hf)).subG (G' := G) (by simp))
    ·refine Kn.takeS 0 ⟨some 44, _, _, _, _, _⟩ (hy := fun w hSw => by
      (try dsimp only at hSw); have q0 := hSw.1.cell 1 (by simp); have q2 := hSw.2; simp only [List.getElem_cons_zero, List.getElem_cons_succ] at q0
      go_simp
      all_goals (try with_reducible rfl)) ?_
     refine Kn.takeS 1 ⟨some 45, _, _, _, _, _⟩ (hy := fun w hSw => by
      (try dsimp only at hSw); have q0 := hSw.1.cell 1 (by simp); have q2 := hSw.2; simp only [List.getElem_cons_zero, List.getElem_cons_succ] at q0
      go_simp
      all_goals (try with_reducible rfl)) ?_
     refine Kn.takeS 2 ⟨some 46, _, _, _, _, _⟩ (hy := fun w hSw => by
      (try dsimp only at hSw); have q0 := hSw.1.cell 1 (by simp); have q2 := hSw.2; simp only [List.getElem_cons_zero, List.getElem_cons_succ] at q0
      go_simp
      all_goals (try with_reducible rfl)) ?_
     refine Kn.takeS 3 ⟨some 47, _, _, _, _, _⟩ (hy := fun w hSw => by
      (try dsimp only at hSw); have q0 := hSw.1.cell 1 (by simp); have q2 := hSw.2; simp only [List.getElem_cons_zero, List.getElem_cons_succ] at q0
      go_simp
      all_goals (try with_reducible rfl)) ?_
     refine Kn.takeS 4 ⟨some 48, _, _, _, _, _⟩ (hy := fun w hSw => by
      (try dsimp only at hSw); have q0 := hSw.1.cell 1 (by simp); have q2 := hSw.2; simp only [List.getElem_cons_zero, List.getElem_cons_succ] at q0
      go_simp
      all_goals (try with_reducible rfl)) ?_
     refine Kn.takeS 5 ⟨some 49, _, _, _, _, _⟩ (hy := fun w hSw => by
      (try dsimp only at hSw); have q0 := hSw.1.cell 1 (by simp); have q2 := hSw.2; simp only [List.getElem_cons_zero, List.getElem_cons_succ] at q0
      go_simp
      all_goals (try with_reducible rfl)) ?_
     refine Kn.takeS 6 ⟨some 50, _, _, _, _, _⟩ (hy := fun w hSw => by
      (try dsimp only at hSw); have q0 := hSw.1.cell 1 (by simp); have q2 := hSw.2; simp only [List.getElem_cons_zero, List.getElem_cons_succ] at q0
      go_simp
      all_goals (try with_reducible rfl)) ?_
     refine Kn.takeS 7 ⟨some 51, _, _, _, _, _⟩ (hy := fun w hSw => by
      (try dsimp only at hSw); have q0 := hSw.1.cell 1 (by simp); have q2 := hSw.2; simp only [List.getElem_cons_zero, List.getElem_cons_succ] at q0
      go_simp
      all_goals (try with_reducible rfl)) ?_
     refine Kn.takeS 8 ⟨some 52, _, _, _, _, _⟩ (hy := fun w hSw => by
      (try dsimp only at hSw); have q0 := hSw.1.cell 1 (by simp); have q2 := hSw.2; simp only [List.getElem_cons_zero, List.getElem_cons_succ] at q0
      go_simp
      all_goals (try with_reducible rfl)) ?_
     refine Kn.takeS 9 ⟨some 53, _, _, _, _, _⟩ (hy := fun w hSw => by
      (try dsimp only at hSw); have q0 := hSw.1.cell 1 (by simp); have q2 := hSw.2; simp only [List.getElem_cons_zero, List.getElem_cons_succ] at q0
      go_simp
      all_goals (try with_reducible rfl)) ?_
     refine Kn.takeS 10 ⟨some 54, _, _, _, _, _⟩ (hy := fun w hSw => by
      (try dsimp only at hSw); have q0 := hSw.1.cell 1 (by simp); have q2 := hSw.2; simp only [List.getElem_cons_zero, List.getElem_cons_succ] at q0
      go_simp
      all_goals (try with_reducible rfl)) ?_
     refine Kn.takeS 11 ⟨some 55, _, _, _, _, _⟩ (hy := fun w hSw => by
      (try dsimp only at hSw); have q0 := hSw.1.cell 1 (by simp); have q2 := hSw.2; simp only [List.getElem_cons_zero, List.getElem_cons_succ] at q0
      go_simp
      all_goals (try with_reducible rfl)) ?_
     refine Kn.takeS 12 ⟨some 56, _, _, _, _, _⟩ (hy := fun w hSw => by
      (try dsimp only at hSw); have q0 := hSw.1.cell 1 (by simp); have q2 := hSw.2; simp only [List.getElem_cons_zero, List.getElem_cons_succ] at q0
      go_simp
      all_goals (try with_reducible rfl)) ?_
     refine Kn.takeS 13 ⟨some 57, _, _, _, _, _⟩ (hy := fun w hSw => by
      (try dsimp only at hSw); have q0 := hSw.1.cell 1 (by simp); have q2 := hSw.2; simp only [List.getElem_cons_zero, List.getElem_cons_succ] at q0
      go_simp
      all_goals (try with_reducible rfl)) ?_
     refine Kn.takeS 14 ⟨some 58, _, _, _, _, _⟩ (hy := fun w hSw => by
      (try dsimp only at hSw); have q0 := hSw.1.cell 1 (by simp); have q2 := hSw.2; simp only [List.getElem_cons_zero, List.getElem_cons_succ] at q0
      go_simp
      all_goals (try with_reducible rfl)) ?_
     refine Kn.takeR 15 ⟨some 59, _, _, _, _, _⟩ fun K hK => ?_
     go_simp
     refine (geom_config_any gb cf.b cf.s cf.l _ (HQ6.out.fact (fun W => GeoAt W gb cf.b cf.s cf.l) HG.out)).mono ?_
     rintro en v8 ⟨rfl, hO⟩
     have HQ7 := Lib.hid (HQ6.out.keep0 hO)
     clear hO HQ6
     have HQ6 := Lib.hid HQ7.out
     clear HQ7
     refine hK.out _ _ ⟨HQ6.out.boxi 3 rfl, by simpa [SB] using (HQ6.out.boxi 0 (p := S) rfl).cell 1 (by simp [SB])⟩ (fun hSw8 => ?_)
     clear hK K
     clear hSw7
     refine Kn.takeS 16 ⟨some 60, _, _, _, _, _⟩ (hy := fun w hSw => by
      (try dsimp only at hSw); have q0 := hSw.1.cell 1 (by simp); have q2 := hSw.2; simp only [List.getElem_cons_zero, List.getElem_cons_succ] at q0
      go_simp
      all_goals (try with_reducible rfl)) ?_
     refine Kn.takeS 17 ⟨some 61, _, _, _, _, _⟩ (hy := fun w hSw => by
      (try dsimp only at hSw); have q0 := hSw.1.cell 1 (by simp); have q2 := hSw.2; simp only [List.getElem_cons_zero, List.getElem_cons_succ] at q0
      go_simp
      all_goals (try with_reducible rfl)) ?_
     refine Kn.takeS 18 ⟨some 62, _, _, _, _, _⟩ (hy := fun w hSw => by
      (try dsimp only at hSw); have q0 := hSw.1.cell 1 (by simp); have q2 := hSw.2; simp only [List.getElem_cons_zero, List.getElem_cons_succ] at q0
      go_simp
      all_goals (try with_reducible rfl)) ?_
     refine wpAnyH_done (by kernel_rfl) ?_ _
     clear hSw8
     have hlz : N = 0 ∨ cf.l < q.o + (N : Int) → False := fun h => h.elim (fun h => hN0 h) (fun h => hfar2 h)
     have HLZ := Lib.hid hlz
     clear hlz
     have hg1 : gerr d a 1 = 0 := by rw [gerr_one]; exact HZ.out
     have hga : gat d a 1 = d.read a := gat_one d a
     have HWS : Hid (Wk w0 wb v8 ((S, SB pd.D gb p own e 0) :: (fn, [.int .i64 0, .int .i64 0, .int .i64 0, .int .i64 0, .int .i64 0]) :: (fr, [.int .i64 0, .int .i64 0, .int .i64 0, .slice none 0 0, .slice none 0 0]) :: (fq, [.int .i64 q.s, .int .i64 q.o, .int .i64 q.l, .int .i64 q.p, .int .i64 q.m]) :: L) (⟨5, 1, .slice A n cc, n, bvs (gat d a 1)⟩ :: G) F) := Lib.hid (by rw [hga]; exact HQ6.out)
     have HG1 := Lib.hid hg1
     clear hg1 hga HQ6
     obtain ⟨i0, hi0, hy0, hy1, hy2⟩ := info_parts Tryz.infoU8
     have hNge : 1 ≤ N := by omega
     clear hN0 HNL hn64
     go_wp2_with fail
     go_loopg [8, 10] (N - 1) (fun rr t8 i wr => ∃ (j : Nat) (A : Option Addr) (n cc : Nat), j + rr = N ∧ 1 ≤ j ∧ i = .int .i64 j ∧ t8 = .slice A n cc ∧ gerr d a j = 0 ∧ Wk w0 wb wr ((S, SB pd.D gb p own e 0) :: (fn, [.int .i64 0, .int .i64 0, .int .i64 0, .int .i64 0, .int .i64 0]) :: (fr, [.int .i64 0, .int .i64 0, .int .i64 0, .slice none 0 0, .slice none 0 0]) :: (fq, [.int .i64 q.s, .int .i64 q.o, .int .i64 q.l, .int .i64 q.p, .int .i64 q.m]) :: L) (⟨5, 1, .slice A n cc, n, bvs (gat d a j)⟩ :: G) F)
     case atStart => exact ⟨1, A, n, cc, by omega, by omega, rfl, rfl, HG1.out, HWS.out⟩
     obtain ⟨j, A, n, cc, hj, hj1, rfl, rfl, hge, hw⟩ := hrel
     have HGE := Lib.hid hge
     have HW6 := Lib.hid hw
     have hnl := (hw.gi 0 rfl).1
     rw [bvs_length, gat_len HDK.out.ok j hge] at hnl
     have hn4 : n = 64 * j := by simpa using hnl.symm
     have hn448 : n ≤ 448 := by omega
     have HN4 := Lib.hid hn4
     clear HWS HG1 hge hw hnl hn4
     by_cases hlt : j < N
     ·have hlt2 : (j : Int) < (N : Int) := by omega
      go_wp2_with fail
      refine (scan_read_own w0 _ S gb pd d p own e 0 _ _ F (a + (j : Int)) HW6.out (HDK.out.mono (fun x hx => by simp [hx]))).mono ?_
      rintro en w7 ⟨AX, nx, ccx, rfl, hrd⟩
      have HW7 := Lib.hid hrd
      clear hrd HW6
      obtain ⟨z2, hz2⟩ : ∃ z, d.err (a + (j : Int)) = z := ⟨_, rfl⟩
      rw [hz2] at HW7 ⊢
      have HZ2 := Lib.hid hz2
      clear hz2
      have hgs := gerr_succ d a j
      rw [if_pos HGE.out, HZ2.out] at hgs
      have HGS := Lib.hid hgs
      clear hgs
      by_cases hz20 : z2 = 0
      ·subst hz20
       have hrx := (Row1.of_owns (HW7.out.gi 0 rfl)).1
       have hnx := hrx.len
       rw [bvs_length] at hnx
       have hnx64 : nx ≤ 64 := by rw [← hnx, Dk.read_len HDK.out.ok]; split <;> omega
       have HRX := Lib.hid hrx
       have HBS := Lib.hid HW7.out.only.size
       clear hrx hnx
       go_wp2_with (first
        | (at_builtin; refine wpList_append_row1 rfl (.tmp 82) (.tmp 83) 47 rfl w0.heap.size 5 i0 _ 1 Tryz.underlying47 hi0 hy0 hy1 hy2 rfl (.slice A n cc) n (bvs (gat d a j)) rfl (HW7.out.gi 1 rfl) AX nx ccx (bvs (d.read (a + (j : Int)))) rfl HRX.out (bvs_one _) (by unfold maxLen; omega) (by omega) HBS.out ?_; intro v8 w8 hown hgrow hat; have hdd := HW7.out.gapp 1 rfl hown hgrow hat; obtain ⟨A8, c8, rfl⟩ := hdd.gform 1 rfl; simp only [List.set_cons_zero, List.set_cons_succ] at hdd; have HW8 := Lib.hid hdd.gdrop; clear hdd hown hgrow hat HRX HBS HW7)
        | fail)
       have hba : bvs (gat d a j) ++ bvs (d.read (a + (j : Int))) = bvs (gat d a (j + 1)) := by rw [gat_succ]; simp [bvs]
       rw [hba] at HW8
       clear hba
       go_roundg (gk - 1)
       case measure => omega
       case rel => exact ⟨j + 1, A8, n + nx, c8, by omega, by omega, by go_num, rfl, HGS.out, HW8.out⟩
      ·have hzb : decide (z2 = 0) = false := by simpa using hz20
       go_wp2_with fail
       have HY := Lib.hid HW7.out.drew
       clear HW7
       refine wp_region_held_drew (S := (fun w' => Kn.Own w' fr [.int .i64 0, .int .i64 0, .int .i64 0, .slice none 0 0, .slice none 0 0] ∧ Kn.Own w' fn [.int .i64 0, .int .i64 0, .int .i64 0, .int .i64 0, .int .i64 0])) (by kernel_rfl) ⟨HY.out.boxi 2 rfl, HY.out.boxi 1 rfl⟩ (fun hSw0 => ?_)
       generalize w7.drew = wz at *
       refine Kn.takeS 0 ⟨some 80, _, _, _, _, _⟩ (v := (.agg #[.int .i64 0, .int .i64 0, .int .i64 0, .slice none 0 0, .slice none 0 0])) (hy := fun w hSw => by
        have q0 := hSw.1
        obtain ⟨q00, q01, q02, q03, q04⟩ := Kn.own5 q0
        clear q0
        go_simp) ?_
       refine Kn.takeS 1 ⟨some 81, _, _, _, _, _⟩ (v := (.agg #[.int .i64 0, .int .i64 0, .int .i64 0, .int .i64 0, .int .i64 0])) (hy := fun w hSw => by
        have q0 := hSw.2
        obtain ⟨q00, q01, q02, q03, q04⟩ := Kn.own5 q0
        clear q0
        go_simp) ?_
       refine Kn.takeR 2 ⟨none, _, _, _, _, _⟩ fun K hK => ?_
       refine step_store_own rfl 56 (.tmp 4) (.tmp 80) rfl fr [.int .i64 0, .int .i64 0, .int .i64 0, .slice none 0 0, .slice none 0 0] [.int .i64 0, .int .i64 0, .int .i64 0, .slice none 0 0, .slice none 0 0] (by kernel_rfl) rfl rfl (HY.out.boxi 2 rfl) rfl (by intro u hu; simp at hu; rcases hu with rfl | rfl <;> rfl) ?_
       intro wa ho hO
       have HY1 := Lib.hid (HY.out.call1 2 rfl ho hO)
       clear ho hO HY
       refine hK.out _ _ ⟨HY1.out.boxi 2 rfl, HY1.out.boxi 1 rfl⟩ (fun hSn => ?_)
       clear hK K hSw0
       have hSw0 := hSn
       clear hSn
       refine Kn.takeR 3 ⟨none, _, _, _, _, _⟩ fun K hK => ?_
       refine step_store_own rfl 32 (.tmp 5) (.tmp 81) rfl fn [.int .i64 0, .int .i64 0, .int .i64 0, .int .i64 0, .int .i64 0] [.int .i64 0, .int .i64 0, .int .i64 0, .int .i64 0, .int .i64 0] (by kernel_rfl) rfl rfl (HY1.out.boxi 1 rfl) rfl (by intro u hu; simp at hu; subst hu; rfl) ?_
       intro wy ho hO
       have HY2 := Lib.hid (HY1.out.call1 1 rfl ho hO)
       clear ho hO HY1
       refine hK.out _ _ ⟨HY2.out.boxi 2 rfl, HY2.out.boxi 1 rfl⟩ (fun hSn => ?_)
       clear hK K hSw0
       have hSw0 := hSn
       clear hSn
       refine Kn.takeS 4 ⟨some 6, _, _, _, _, _⟩ ?_
       refine wpAnyH_done (by kernel_rfl) ?_ _
       clear hSw0
       have HFOL := Lib.hid ((follow_gerr (d := d) (c := cf) (p := q) ⟨ho0, by omega⟩ HA.out HZ.out HN.out (fun h => HLZ.out h) (by rw [gerr_stop (m := j + 1) (by rw [HGS.out]; exact hz20) (by omega), HGS.out]; exact hz20)).trans (by rw [gerr_stop (m := j + 1) (by rw [HGS.out]; exact hz20) (by omega), HGS.out]))
       have br := HY2.out.boxi 2 rfl
       have bn := HY2.out.boxi 1 rfl
       obtain ⟨r0, r1, r2, r3, r4⟩ := Kn.own5 br
       obtain ⟨n0, n1, n2, n3, n4⟩ := Kn.own5 bn
       clear br bn
       go_wp2
       (try simp only [Exit.inBlock, Exit.then])
       refine bodyPost_ret (v := .tuple #[.agg #[.int .i64 0, .int .i64 0, .int .i64 0, .slice none 0 0, .slice none 0 0], .agg #[.int .i64 0, .int .i64 0, .int .i64 0, .int .i64 0, .int .i64 0], .bool false]) ?_ rfl ?_
       ·simp only [results, HRES.out]
        go_simp
       ·have HYs : Wk w0 wb wy ((S, SB pd.D gb p own e z2) :: (fn, [.int .i64 0, .int .i64 0, .int .i64 0, .int .i64 0, .int .i64 0]) :: (fr, [.int .i64 0, .int .i64 0, .int .i64 0, .slice none 0 0, .slice none 0 0]) :: (fq, [.int .i64 q.s, .int .i64 q.o, .int .i64 q.l, .int .i64 q.p, .int .i64 q.m]) :: L) (_ :: _ :: G) F := HY2.out
        exact OneSays.no HFOL.out ((HYs.sub (L' := (S, SB pd.D gb p own e z2) :: L) (F' := F) (.cons_cons _ (.cons _ (.cons _ (.cons _ (List.Sublist.refl _))))) (fun f hf => hf)).subG (G' := G) (by simp))
     ·obtain rfl : j = N := by omega
      have hbo := (Row1.of_owns (HW6.out.gi 0 rfl)).1
      have HBO := Lib.hid hbo
      clear hbo
      go_wp2_with fail
      refine (rec_dec_any A n cc (gat d a j) _ HBO.out (by omega)).mono ?_
      rintro en w8 ⟨s, t, rfl, hfc, hO⟩
      obtain ⟨s1, s2, s3⟩ := s
      obtain ⟨t1, t2, t3⟩ := t
      have hwA := HW6.out.addFc hO hfc
      have HWA := Lib.hid hwA
      have bfr := hwA.boxi 2 rfl
      obtain ⟨o0, o1, o2, o3, o4⟩ := Kn.own5 bfr
      have g0 := bfr.frozen 0
      have g1 := bfr.frozen 1
      have g2 := bfr.frozen 2
      have g3 := bfr.frozen 3
      have g4 := bfr.frozen 4
      have bfq := hwA.boxi 3 rfl
      obtain ⟨p0, p1, p2, p3, p4⟩ := Kn.own5 bfq
      cases hdec : decRc (gat d a j) with
      | none =>
       have HDEC := Lib.hid hdec
       rw [hdec] at HWA
       have HB9 := Lib.hid (own_set5 bfr (.int .i64 0) (.int .i64 0) (.int .i64 0) (.slice s1 s2 s3) (.slice t1 t2 t3))
       have HX := Lib.hid (HWA.out.call1 2 rfl (own_set5 bfr (.int .i64 0) (.int .i64 0) (.int .i64 0) (.slice s1 s2 s3) (.slice t1 t2 t3)) (only_set5 _ fr _ _ _ _ _))
       simp only [List.set_cons_zero, List.set_cons_succ] at HX
       clear hwA bfr bfq HWA HBO HW6 hfc hO
       clear hdec
       simp only [Option.map_none, Option.getD_none, Option.isSome_none, rcZ, Rc.cells, slv]
       go_wp2_with fail
       have HY := Lib.hid HX.out.drew
       clear HX
       refine wp_region_held_drew (S := (fun w' => Kn.Own w' fn [.int .i64 0, .int .i64 0, .int .i64 0, .int .i64 0, .int .i64 0])) (by kernel_rfl) (HY.out.boxi 1 rfl) (fun hSw0 => ?_)
       generalize (((((w8.setCell ⟨fr, 0, none⟩ (.int .i64 0)).setCell ⟨fr, 1, none⟩ (.int .i64 0)).setCell ⟨fr, 2, none⟩ (.int .i64 0)).setCell ⟨fr, 3, none⟩ (.slice s1 s2 s3)).setCell ⟨fr, 4, none⟩ (.slice t1 t2 t3)).drew = wz at *
       refine Kn.takeS 0 ⟨some 114, _, _, _, _, _⟩ ?_
       refine Kn.takeS 1 ⟨some 115, _, _, _, _, _⟩ (v := (.agg #[.int .i64 0, .int .i64 0, .int .i64 0, .int .i64 0, .int .i64 0])) (hy := fun w hSw => by
        have q0 := hSw
        obtain ⟨q00, q01, q02, q03, q04⟩ := Kn.own5 q0
        clear q0
        go_simp) ?_
       refine Kn.takeR 2 ⟨none, _, _, _, _, _⟩ fun K hK => ?_
       refine step_store_own rfl 56 (.tmp 4) (.tmp 114) rfl fr [.int .i64 0, .int .i64 0, .int .i64 0, .slice s1 s2 s3, .slice t1 t2 t3] [.int .i64 0, .int .i64 0, .int .i64 0, .slice none 0 0, .slice none 0 0] (by kernel_rfl) rfl rfl (HY.out.boxi 2 rfl) rfl (by intro u hu; simp at hu; rcases hu with rfl | rfl <;> rfl) ?_
       intro wa ho hO
       have HY1 := Lib.hid (HY.out.call1 2 rfl ho hO)
       clear ho hO HY
       refine hK.out _ _ (HY1.out.boxi 1 rfl) (fun hSn => ?_)
       clear hK K hSw0
       have hSw0 := hSn
       clear hSn
       refine Kn.takeR 3 ⟨none, _, _, _, _, _⟩ fun K hK => ?_
       refine step_store_own rfl 32 (.tmp 5) (.tmp 115) rfl fn [.int .i64 0, .int .i64 0, .int .i64 0, .int .i64 0, .int .i64 0] [.int .i64 0, .int .i64 0, .int .i64 0, .int .i64 0, .int .i64 0] (by kernel_rfl) rfl rfl (HY1.out.boxi 1 rfl) rfl (by intro u hu; simp at hu; subst hu; rfl) ?_
       intro wy ho hO
       have HY2 := Lib.hid (HY1.out.call1 1 rfl ho hO)
       clear ho hO HY1
       refine hK.out _ _ (HY2.out.boxi 1 rfl) (fun hSn => ?_)
       clear hK K hSw0
       have hSw0 := hSn
       clear hSn
       refine Kn.takeS 4 ⟨some 6, _, _, _, _, _⟩ ?_
       refine wpAnyH_done (by kernel_rfl) ?_ _
       clear hSw0
       have HFOL := Lib.hid (follow_dec (d := d) (c := cf) (p := q) ⟨ho0, by omega⟩ HA.out HZ.out HN.out (fun h => HLZ.out h) HGE.out HDEC.out)
       have br := HY2.out.boxi 2 rfl
       have bn := HY2.out.boxi 1 rfl
       obtain ⟨r0, r1, r2, r3, r4⟩ := Kn.own5 br
       obtain ⟨n0, n1, n2, n3, n4⟩ := Kn.own5 bn
       clear br bn
       go_wp2
       (try simp only [Exit.inBlock, Exit.then])
       refine bodyPost_ret (v := .tuple #[.agg #[.int .i64 0, .int .i64 0, .int .i64 0, .slice none 0 0, .slice none 0 0], .agg #[.int .i64 0, .int .i64 0, .int .i64 0, .int .i64 0, .int .i64 0], .bool false]) ?_ rfl ?_
       ·simp only [results, HRES.out]
        go_simp
       ·have HYs : Wk w0 wb wy ((S, SB pd.D gb p own e 0) :: (fn, [.int .i64 0, .int .i64 0, .int .i64 0, .int .i64 0, .int .i64 0]) :: (fr, [.int .i64 0, .int .i64 0, .int .i64 0, .slice none 0 0, .slice none 0 0]) :: (fq, [.int .i64 q.s, .int .i64 q.o, .int .i64 q.l, .int .i64 q.p, .int .i64 q.m]) :: L) (_ :: G) (_ :: F) := HY2.out
        exact OneSays.no HFOL.out ((HYs.sub (L' := (S, SB pd.D gb p own e 0) :: L) (F' := F) (.cons_cons _ (.cons _ (.cons _ (.cons _ (List.Sublist.refl _))))) (fun f hf => List.mem_cons_of_mem _ hf)).subG (G' := G) (by simp))
      | some x =>
       obtain ⟨⟨rm, rn, rp, ri, rb⟩, sm⟩ := x
       have HDEC := Lib.hid hdec
       obtain ⟨he1, _, _⟩ := encRc_of_dec hdec
       obtain ⟨hq1, hq2, hq3, hq4, hq5, hq6, hq7, hq8⟩ := enc_some he1
       simp only at hq6 hq7
       obtain ⟨hrn0, hrn1⟩ := hq7
       rw [hdec] at HWA
       have HB9 := Lib.hid (own_set5 bfr (.int .i64 rm) (.int .i64 rn) (.int .i64 rp) (.slice s1 s2 s3) (.slice t1 t2 t3))
       have HX := Lib.hid (HWA.out.call1 2 rfl (own_set5 bfr (.int .i64 rm) (.int .i64 rn) (.int .i64 rp) (.slice s1 s2 s3) (.slice t1 t2 t3)) (only_set5 _ fr _ _ _ _ _))
       simp only [List.set_cons_zero, List.set_cons_succ] at HX
       clear hwA bfr bfq HWA HBO HW6 hfc hO
       clear hdec he1 hq1 hq2 hq3 hq4 hq5 hq6 hq8
       have hFR := follow_rec (d := d) (c := cf) (p := q) ⟨ho0, by omega⟩ HA.out HZ.out HN.out (fun h => HLZ.out h) HGE.out HDEC.out
       have HFR := Lib.hid hFR
       clear hFR
       simp only [Option.map_some, Option.getD_some, Option.isSome_some, Rc.cells, slv]
       go_upto_region 16 with (fail)
       generalize hwc : (((((w8.setCell ⟨fr, 0, none⟩ (.int .i64 rm)).setCell ⟨fr, 1, none⟩ (.int .i64 rn)).setCell ⟨fr, 2, none⟩ (.int .i64 rp)).setCell ⟨fr, 3, none⟩ (.slice s1 s2 s3)).setCell ⟨fr, 4, none⟩ (.slice t1 t2 t3)) = w9 at *
       clear hwc o0 o1 o2 o3 o4 g0 g1 g2 g3 g4 p0 p1 p2 p3 p4
       have k9 := HX.out.boxi 2 rfl
       obtain ⟨k0, k1, k2, k3, k4⟩ := Kn.own5 k9
       clear k9 HB9
       have p9 := HX.out.boxi 3 rfl
       obtain ⟨p0, p1, p2, p3, p4⟩ := Kn.own5 p9
       clear p9
       by_cases c1 : rn = q.l
       ·by_cases c2 : rp = q.p
        ·by_cases c3 : q.m ≤ rm
         ·have HFOL := Lib.hid (HFR.out.trans (if_pos ⟨c1, c2, c3⟩))
          have hb1 : (rn != q.l) = false := by simp [c1]
          have hb2 : (rp != q.p) = false := by simp [c2]
          have hb3 : ¬ rm < q.m := by omega
          have hwn := IntWalk.i64_in (rn + 1) (by omega)
          have HC1 := Lib.hid c1
          clear c1 c2
          go_wp2_with fail
          have HY := Lib.hid HX.out.drew
          clear HX
          refine wp_region_held_drew (S := (fun w' => Kn.Own w' fr [.int .i64 rm, .int .i64 rn, .int .i64 rp, .slice s1 s2 s3, .slice t1 t2 t3] ∧ Kn.Own w' fq [.int .i64 q.s, .int .i64 q.o, .int .i64 q.l, .int .i64 q.p, .int .i64 q.m])) (by kernel_rfl) ⟨HY.out.boxi 2 rfl, HY.out.boxi 3 rfl⟩ (fun hSw0 => ?_)
          generalize w9.drew = wz at *
          refine Kn.takeS 0 ⟨some 116, _, _, _, _, _⟩ (v := (.agg #[.int .i64 rm, .int .i64 rn, .int .i64 rp, .slice s1 s2 s3, .slice t1 t2 t3])) (hy := fun w hSw => by
           have q0 := hSw.1
           obtain ⟨q00, q01, q02, q03, q04⟩ := Kn.own5 q0
           clear q0
           go_simp) ?_
          refine Kn.takeS 1 ⟨some 117, _, _, _, _, _⟩ ?_
          refine Kn.takeS 2 ⟨some 118, _, _, _, _, _⟩ (v := (.int .i64 q.s)) (hy := fun w hSw => by
           have q0 := Kn.own1 hSw.2
           go_simp) ?_
          refine Kn.takeS 3 ⟨some 119, _, _, _, _, _⟩ ?_
          refine Kn.takeS 4 ⟨some 120, _, _, _, _, _⟩ (v := (.int .i64 q.o)) (hy := fun w hSw => by
           have q0 := hSw.2.cell 1 (by simp)
           simp only [List.getElem_cons_zero, List.getElem_cons_succ] at q0
           go_simp) ?_
          refine Kn.takeS 5 ⟨some 121, _, _, _, _, _⟩ ?_
          refine Kn.takeS 6 ⟨some 122, _, _, _, _, _⟩ ?_
          refine Kn.takeS 7 ⟨some 123, _, _, _, _, _⟩ ?_
          refine Kn.takeS 8 ⟨some 124, _, _, _, _, _⟩ (v := (.int .i64 rn)) (hy := fun w hSw => by
           have q0 := hSw.1.cell 1 (by simp)
           simp only [List.getElem_cons_zero, List.getElem_cons_succ] at q0
           go_simp) ?_
          refine Kn.takeS 9 ⟨some 125, _, _, _, _, _⟩ ?_
          refine Kn.takeS 10 ⟨some 126, _, _, _, _, _⟩ ?_
          refine Kn.takeS 11 ⟨some 127, _, _, _, _, _⟩ ?_
          refine Kn.takeS 12 ⟨some 128, _, _, _, _, _⟩ (v := (.int .i64 rm)) (hy := fun w hSw => by
           have q0 := Kn.own1 hSw.1
           go_simp) ?_
          refine Kn.takeS 13 ⟨some 129, _, _, _, _, _⟩ ?_
          refine Kn.takeR 14 ⟨none, _, _, _, _, _⟩ fun K hK => ?_
          refine step_store_own rfl 56 (.tmp 4) (.tmp 116) rfl fr [.int .i64 rm, .int .i64 rn, .int .i64 rp, .slice s1 s2 s3, .slice t1 t2 t3] [.int .i64 rm, .int .i64 rn, .int .i64 rp, .slice s1 s2 s3, .slice t1 t2 t3] (by kernel_rfl) rfl rfl (HY.out.boxi 2 rfl) rfl (by intro u hu; simp at hu; rcases hu with rfl | rfl | rfl | rfl | rfl <;> rfl) ?_
          intro wa ho hO
          have HY1 := Lib.hid (HY.out.call1 2 rfl ho hO)
          clear ho hO HY
          refine hK.out _ _ ⟨HY1.out.boxi 2 rfl, HY1.out.boxi 3 rfl⟩ (fun hSn => ?_)
          clear hK K hSw0
          have hSw0 := hSn
          clear hSn
          refine Kn.takeR 15 ⟨none, _, _, _, _, _⟩ fun K hK => ?_
          refine step_store_own rfl 32 (.tmp 5) (.tmp 129) rfl fn [.int .i64 0, .int .i64 0, .int .i64 0, .int .i64 0, .int .i64 0] [.int .i64 q.s, .int .i64 (q.o + (j : Int)), .int .i64 (rn + 1), .int .i64 (sm : Nat), .int .i64 rm] (by kernel_rfl) rfl rfl (HY1.out.boxi 1 rfl) rfl (by intro u hu; simp at hu; rcases hu with rfl | rfl | rfl | rfl | rfl <;> rfl) ?_
          intro wy ho hO
          have HY2 := Lib.hid (HY1.out.call1 1 rfl ho hO)
          clear ho hO HY1
          refine hK.out _ _ ⟨HY2.out.boxi 2 rfl, HY2.out.boxi 3 rfl⟩ (fun hSn => ?_)
          clear hK K hSw0
          have hSw0 := hSn
          clear hSn
          refine Kn.takeS 16 ⟨some 6, _, _, _, _, _⟩ ?_
          refine wpAnyH_done (by kernel_rfl) ?_ _
          clear hSw0
          have br := HY2.out.boxi 2 rfl
          have bn := HY2.out.boxi 1 rfl
          obtain ⟨r0, r1, r2, r3, r4⟩ := Kn.own5 br
          obtain ⟨n0, n1, n2, n3, n4⟩ := Kn.own5 bn
          clear br bn
          go_wp2
          (try simp only [Exit.inBlock, Exit.then])
          refine bodyPost_ret (v := .tuple #[.agg #[.int .i64 rm, .int .i64 rn, .int .i64 rp, .slice s1 s2 s3, .slice t1 t2 t3], .agg #[.int .i64 q.s, .int .i64 (q.o + (j : Int)), .int .i64 (rn + 1), .int .i64 (sm : Nat), .int .i64 rm], .bool true]) ?_ rfl ?_
          ·simp only [results, HRES.out]
           go_simp
          ·rw [HFOL.out]
           have HYs : Wk w0 wb wy ((S, SB pd.D gb p own e 0) :: _ :: _ :: _ :: L) (_ :: G) (_ :: F) := HY2.out
           exact ⟨(s1, s2, s3), (t1, t2, t3), by have h := HC1.out; subst h; rfl, ((HYs.sub (L' := (S, SB pd.D gb p own e 0) :: L) (.cons_cons _ (.cons _ (.cons _ (.cons _ (List.Sublist.refl _))))) (fun f hf => hf)).subG (G' := G) (by simp))⟩
         ·have hb1 : (rn != q.l) = false := by simp [c1]
          have hb2 : (rp != q.p) = false := by simp [c2]
          have hb3 : rm < q.m := by omega
          clear c1 c2
          go_wp2_with fail
          have HY := Lib.hid HX.out.drew
          clear HX
          refine wp_region_held_drew (S := (fun w' => Kn.Own w' fn [.int .i64 0, .int .i64 0, .int .i64 0, .int .i64 0, .int .i64 0])) (by kernel_rfl) (HY.out.boxi 1 rfl) (fun hSw0 => ?_)
          generalize w9.drew = wz at *
          refine Kn.takeS 0 ⟨some 114, _, _, _, _, _⟩ ?_
          refine Kn.takeS 1 ⟨some 115, _, _, _, _, _⟩ (v := (.agg #[.int .i64 0, .int .i64 0, .int .i64 0, .int .i64 0, .int .i64 0])) (hy := fun w hSw => by
           have q0 := hSw
           obtain ⟨q00, q01, q02, q03, q04⟩ := Kn.own5 q0
           clear q0
           go_simp) ?_
          refine Kn.takeR 2 ⟨none, _, _, _, _, _⟩ fun K hK => ?_
          refine step_store_own rfl 56 (.tmp 4) (.tmp 114) rfl fr [.int .i64 rm, .int .i64 rn, .int .i64 rp, .slice s1 s2 s3, .slice t1 t2 t3] [.int .i64 0, .int .i64 0, .int .i64 0, .slice none 0 0, .slice none 0 0] (by kernel_rfl) rfl rfl (HY.out.boxi 2 rfl) rfl (by intro u hu; simp at hu; rcases hu with rfl | rfl <;> rfl) ?_
          intro wa ho hO
          have HY1 := Lib.hid (HY.out.call1 2 rfl ho hO)
          clear ho hO HY
          refine hK.out _ _ (HY1.out.boxi 1 rfl) (fun hSn => ?_)
          clear hK K hSw0
          have hSw0 := hSn
          clear hSn
          refine Kn.takeR 3 ⟨none, _, _, _, _, _⟩ fun K hK => ?_
          refine step_store_own rfl 32 (.tmp 5) (.tmp 115) rfl fn [.int .i64 0, .int .i64 0, .int .i64 0, .int .i64 0, .int .i64 0] [.int .i64 0, .int .i64 0, .int .i64 0, .int .i64 0, .int .i64 0] (by kernel_rfl) rfl rfl (HY1.out.boxi 1 rfl) rfl (by intro u hu; simp at hu; subst hu; rfl) ?_
          intro wy ho hO
          have HY2 := Lib.hid (HY1.out.call1 1 rfl ho hO)
          clear ho hO HY1
          refine hK.out _ _ (HY2.out.boxi 1 rfl) (fun hSn => ?_)
          clear hK K hSw0
          have hSw0 := hSn
          clear hSn
          refine Kn.takeS 4 ⟨some 6, _, _, _, _, _⟩ ?_
          refine wpAnyH_done (by kernel_rfl) ?_ _
          clear hSw0
          have HFOL := Lib.hid (HFR.out.trans (if_neg (by intro h; omega)))
          have br := HY2.out.boxi 2 rfl
          have bn := HY2.out.boxi 1 rfl
          obtain ⟨r0, r1, r2, r3, r4⟩ := Kn.own5 br
          obtain ⟨n0, n1, n2, n3, n4⟩ := Kn.own5 bn
          clear br bn
          go_wp2
          (try simp only [Exit.inBlock, Exit.then])
          refine bodyPost_ret (v := .tuple #[.agg #[.int .i64 0, .int .i64 0, .int .i64 0, .slice none 0 0, .slice none 0 0], .agg #[.int .i64 0, .int .i64 0, .int .i64 0, .int .i64 0, .int .i64 0], .bool false]) ?_ rfl ?_
          ·simp only [results, HRES.out]
           go_simp
          ·have HYs : Wk w0 wb wy ((S, SB pd.D gb p own e 0) :: (fn, [.int .i64 0, .int .i64 0, .int .i64 0, .int .i64 0, .int .i64 0]) :: (fr, [.int .i64 0, .int .i64 0, .int .i64 0, .slice none 0 0, .slice none 0 0]) :: (fq, [.int .i64 q.s, .int .i64 q.o, .int .i64 q.l, .int .i64 q.p, .int .i64 q.m]) :: L) (_ :: G) (_ :: F) := HY2.out
           exact OneSays.no HFOL.out ((HYs.sub (L' := (S, SB pd.D gb p own e 0) :: L) (F' := F) (.cons_cons _ (.cons _ (.cons _ (.cons _ (List.Sublist.refl _))))) (fun f hf => List.mem_cons_of_mem _ hf)).subG (G' := G) (by simp))
        ·have hb1 : (rn != q.l) = false := by simp [c1]
         have hb2 : (rp != q.p) = true := by simpa using c2
         clear c1
         go_wp2_with fail
         have HY := Lib.hid HX.out.drew
         clear HX
         refine wp_region_held_drew (S := (fun w' => Kn.Own w' fn [.int .i64 0, .int .i64 0, .int .i64 0, .int .i64 0, .int .i64 0])) (by kernel_rfl) (HY.out.boxi 1 rfl) (fun hSw0 => ?_)
         generalize w9.drew = wz at *
         refine Kn.takeS 0 ⟨some 114, _, _, _, _, _⟩ ?_
         refine Kn.takeS 1 ⟨some 115, _, _, _, _, _⟩ (v := (.agg #[.int .i64 0, .int .i64 0, .int .i64 0, .int .i64 0, .int .i64 0])) (hy := fun w hSw => by
          have q0 := hSw
          obtain ⟨q00, q01, q02, q03, q04⟩ := Kn.own5 q0
          clear q0
          go_simp) ?_
         refine Kn.takeR 2 ⟨none, _, _, _, _, _⟩ fun K hK => ?_
         refine step_store_own rfl 56 (.tmp 4) (.tmp 114) rfl fr [.int .i64 rm, .int .i64 rn, .int .i64 rp, .slice s1 s2 s3, .slice t1 t2 t3] [.int .i64 0, .int .i64 0, .int .i64 0, .slice none 0 0, .slice none 0 0] (by kernel_rfl) rfl rfl (HY.out.boxi 2 rfl) rfl (by intro u hu; simp at hu; rcases hu with rfl | rfl <;> rfl) ?_
         intro wa ho hO
         have HY1 := Lib.hid (HY.out.call1 2 rfl ho hO)
         clear ho hO HY
         refine hK.out _ _ (HY1.out.boxi 1 rfl) (fun hSn => ?_)
         clear hK K hSw0
         have hSw0 := hSn
         clear hSn
         refine Kn.takeR 3 ⟨none, _, _, _, _, _⟩ fun K hK => ?_
         refine step_store_own rfl 32 (.tmp 5) (.tmp 115) rfl fn [.int .i64 0, .int .i64 0, .int .i64 0, .int .i64 0, .int .i64 0] [.int .i64 0, .int .i64 0, .int .i64 0, .int .i64 0, .int .i64 0] (by kernel_rfl) rfl rfl (HY1.out.boxi 1 rfl) rfl (by intro u hu; simp at hu; subst hu; rfl) ?_
         intro wy ho hO
         have HY2 := Lib.hid (HY1.out.call1 1 rfl ho hO)
         clear ho hO HY1
         refine hK.out _ _ (HY2.out.boxi 1 rfl) (fun hSn => ?_)
         clear hK K hSw0
         have hSw0 := hSn
         clear hSn
         refine Kn.takeS 4 ⟨some 6, _, _, _, _, _⟩ ?_
         refine wpAnyH_done (by kernel_rfl) ?_ _
         clear hSw0
         have HFOL := Lib.hid (HFR.out.trans (if_neg (by intro h; exact c2 h.2.1)))
         have br := HY2.out.boxi 2 rfl
         have bn := HY2.out.boxi 1 rfl
         obtain ⟨r0, r1, r2, r3, r4⟩ := Kn.own5 br
         obtain ⟨n0, n1, n2, n3, n4⟩ := Kn.own5 bn
         clear br bn
         go_wp2
         (try simp only [Exit.inBlock, Exit.then])
         refine bodyPost_ret (v := .tuple #[.agg #[.int .i64 0, .int .i64 0, .int .i64 0, .slice none 0 0, .slice none 0 0], .agg #[.int .i64 0, .int .i64 0, .int .i64 0, .int .i64 0, .int .i64 0], .bool false]) ?_ rfl ?_
         ·simp only [results, HRES.out]
          go_simp
         ·have HYs : Wk w0 wb wy ((S, SB pd.D gb p own e 0) :: (fn, [.int .i64 0, .int .i64 0, .int .i64 0, .int .i64 0, .int .i64 0]) :: (fr, [.int .i64 0, .int .i64 0, .int .i64 0, .slice none 0 0, .slice none 0 0]) :: (fq, [.int .i64 q.s, .int .i64 q.o, .int .i64 q.l, .int .i64 q.p, .int .i64 q.m]) :: L) (_ :: G) (_ :: F) := HY2.out
          exact OneSays.no HFOL.out ((HYs.sub (L' := (S, SB pd.D gb p own e 0) :: L) (F' := F) (.cons_cons _ (.cons _ (.cons _ (.cons _ (List.Sublist.refl _))))) (fun f hf => List.mem_cons_of_mem _ hf)).subG (G' := G) (by simp))
       ·have hb1 : (rn != q.l) = true := by simpa using c1
        go_wp2_with fail
        have HY := Lib.hid HX.out.drew
        clear HX
        refine wp_region_held_drew (S := (fun w' => Kn.Own w' fn [.int .i64 0, .int .i64 0, .int .i64 0, .int .i64 0, .int .i64 0])) (by kernel_rfl) (HY.out.boxi 1 rfl) (fun hSw0 => ?_)
        generalize w9.drew = wz at *
        refine Kn.takeS 0 ⟨some 114, _, _, _, _, _⟩ ?_
        refine Kn.takeS 1 ⟨some 115, _, _, _, _, _⟩ (v := (.agg #[.int .i64 0, .int .i64 0, .int .i64 0, .int .i64 0, .int .i64 0])) (hy := fun w hSw => by
         have q0 := hSw
         obtain ⟨q00, q01, q02, q03, q04⟩ := Kn.own5 q0
         clear q0
         go_simp) ?_
        refine Kn.takeR 2 ⟨none, _, _, _, _, _⟩ fun K hK => ?_
        refine step_store_own rfl 56 (.tmp 4) (.tmp 114) rfl fr [.int .i64 rm, .int .i64 rn, .int .i64 rp, .slice s1 s2 s3, .slice t1 t2 t3] [.int .i64 0, .int .i64 0, .int .i64 0, .slice none 0 0, .slice none 0 0] (by kernel_rfl) rfl rfl (HY.out.boxi 2 rfl) rfl (by intro u hu; simp at hu; rcases hu with rfl | rfl <;> rfl) ?_
        intro wa ho hO
        have HY1 := Lib.hid (HY.out.call1 2 rfl ho hO)
        clear ho hO HY
        refine hK.out _ _ (HY1.out.boxi 1 rfl) (fun hSn => ?_)
        clear hK K hSw0
        have hSw0 := hSn
        clear hSn
        refine Kn.takeR 3 ⟨none, _, _, _, _, _⟩ fun K hK => ?_
        refine step_store_own rfl 32 (.tmp 5) (.tmp 115) rfl fn [.int .i64 0, .int .i64 0, .int .i64 0, .int .i64 0, .int .i64 0] [.int .i64 0, .int .i64 0, .int .i64 0, .int .i64 0, .int .i64 0] (by kernel_rfl) rfl rfl (HY1.out.boxi 1 rfl) rfl (by intro u hu; simp at hu; subst hu; rfl) ?_
        intro wy ho hO
        have HY2 := Lib.hid (HY1.out.call1 1 rfl ho hO)
        clear ho hO HY1
        refine hK.out _ _ (HY2.out.boxi 1 rfl) (fun hSn => ?_)
        clear hK K hSw0
        have hSw0 := hSn
        clear hSn
        refine Kn.takeS 4 ⟨some 6, _, _, _, _, _⟩ ?_
        refine wpAnyH_done (by kernel_rfl) ?_ _
        clear hSw0
        have HFOL := Lib.hid (HFR.out.trans (if_neg (by intro h; exact c1 h.1)))
        have br := HY2.out.boxi 2 rfl
        have bn := HY2.out.boxi 1 rfl
        obtain ⟨r0, r1, r2, r3, r4⟩ := Kn.own5 br
        obtain ⟨n0, n1, n2, n3, n4⟩ := Kn.own5 bn
        clear br bn
        go_wp2
        (try simp only [Exit.inBlock, Exit.then])
        refine bodyPost_ret (v := .tuple #[.agg #[.int .i64 0, .int .i64 0, .int .i64 0, .slice none 0 0, .slice none 0 0], .agg #[.int .i64 0, .int .i64 0, .int .i64 0, .int .i64 0, .int .i64 0], .bool false]) ?_ rfl ?_
        ·simp only [results, HRES.out]
         go_simp
        ·have HYs : Wk w0 wb wy ((S, SB pd.D gb p own e 0) :: (fn, [.int .i64 0, .int .i64 0, .int .i64 0, .int .i64 0, .int .i64 0]) :: (fr, [.int .i64 0, .int .i64 0, .int .i64 0, .slice none 0 0, .slice none 0 0]) :: (fq, [.int .i64 q.s, .int .i64 q.o, .int .i64 q.l, .int .i64 q.p, .int .i64 q.m]) :: L) (_ :: G) (_ :: F) := HY2.out
         exact OneSays.no HFOL.out ((HYs.sub (L' := (S, SB pd.D gb p own e 0) :: L) (F' := F) (.cons_cons _ (.cons _ (.cons _ (.cons _ (List.Sublist.refl _))))) (fun f hf => List.mem_cons_of_mem _ hf)).subG (G' := G) (by simp))
  ·have hzb : decide (z = 0) = false := by simpa using hz0
   refine Kn.takeS 0 ⟨some 44, _, _, _, _, _⟩ (hy := fun w hSw => by
    (try dsimp only at hSw); have q0 := hSw.1.cell 1 (by simp); have q2 := hSw.2; simp only [List.getElem_cons_zero, List.getElem_cons_succ] at q0
    go_simp
    all_goals (try with_reducible rfl)) ?_
   refine Kn.takeS 1 ⟨some 45, _, _, _, _, _⟩ (hy := fun w hSw => by
    (try dsimp only at hSw); have q0 := hSw.1.cell 1 (by simp); have q2 := hSw.2; simp only [List.getElem_cons_zero, List.getElem_cons_succ] at q0
    go_simp
    all_goals (try with_reducible rfl)) ?_
   refine Kn.takeS 2 ⟨some 46, _, _, _, _, _⟩ (hy := fun w hSw => by
    (try dsimp only at hSw); have q0 := hSw.1.cell 1 (by simp); have q2 := hSw.2; simp only [List.getElem_cons_zero, List.getElem_cons_succ] at q0
    go_simp
    all_goals (try with_reducible rfl)) ?_
   refine Kn.takeN 3 ⟨some 47, _, _, _, _, _⟩ ?_
   refine Kn.takeN 4 ⟨some 48, _, _, _, _, _⟩ ?_
   refine Kn.takeS 5 ⟨some 49, _, _, _, _, _⟩ (hy := fun w hSw => by
    (try dsimp only at hSw); have q0 := hSw.1.cell 1 (by simp); have q2 := hSw.2; simp only [List.getElem_cons_zero, List.getElem_cons_succ] at q0
    go_simp
    all_goals (try with_reducible rfl)) ?_
   refine Kn.takeS 6 ⟨some 50, _, _, _, _, _⟩ (hy := fun w hSw => by
    (try dsimp only at hSw); have q0 := hSw.1.cell 1 (by simp); have q2 := hSw.2; simp only [List.getElem_cons_zero, List.getElem_cons_succ] at q0
    go_simp
    all_goals (try with_reducible rfl)) ?_
   refine Kn.takeN 7 ⟨some 51, _, _, _, _, _⟩ ?_
   refine Kn.takeN 8 ⟨some 52, _, _, _, _, _⟩ ?_
   refine Kn.takeN 9 ⟨some 53, _, _, _, _, _⟩ ?_
   refine Kn.takeN 10 ⟨some 54, _, _, _, _, _⟩ ?_
   refine Kn.takeN 11 ⟨some 55, _, _, _, _, _⟩ ?_
   refine Kn.takeN 12 ⟨some 56, _, _, _, _, _⟩ ?_
   refine Kn.takeN 13 ⟨some 57, _, _, _, _, _⟩ ?_
   refine Kn.takeN 14 ⟨some 58, _, _, _, _, _⟩ ?_
   refine Kn.takeN 15 ⟨some 59, _, _, _, _, _⟩ ?_
   refine Kn.takeN 16 ⟨some 60, _, _, _, _, _⟩ ?_
   refine Kn.takeN 17 ⟨some 61, _, _, _, _, _⟩ ?_
   refine Kn.takeS 18 ⟨some 62, _, _, _, _, _⟩ (hy := fun w hSw => by
    (try dsimp only at hSw); have q0 := hSw.1.cell 1 (by simp); have q2 := hSw.2; simp only [List.getElem_cons_zero, List.getElem_cons_succ] at q0
    go_simp
    all_goals (try with_reducible rfl)) ?_
   refine wpAnyH_done (by kernel_rfl) ?_ _
   clear hSw7
   go_wp2_with fail
   have HY := Lib.hid HQ6.out.drew
   clear HQ6
   refine wp_region_held_drew (S := (fun w' => Kn.Own w' fr [.int .i64 0, .int .i64 0, .int .i64 0, .slice none 0 0, .slice none 0 0] ∧ Kn.Own w' fn [.int .i64 0, .int .i64 0, .int .i64 0, .int .i64 0, .int .i64 0])) (by kernel_rfl) ⟨HY.out.boxi 2 rfl, HY.out.boxi 1 rfl⟩ (fun hSw0 => ?_)
   generalize v7.drew = wz at *
   refine Kn.takeS 0 ⟨some 63, _, _, _, _, _⟩ (v := (.agg #[.int .i64 0, .int .i64 0, .int .i64 0, .slice none 0 0, .slice none 0 0])) (hy := fun w hSw => by
    have q0 := hSw.1
    obtain ⟨q00, q01, q02, q03, q04⟩ := Kn.own5 q0
    clear q0
    go_simp) ?_
   refine Kn.takeS 1 ⟨some 64, _, _, _, _, _⟩ (v := (.agg #[.int .i64 0, .int .i64 0, .int .i64 0, .int .i64 0, .int .i64 0])) (hy := fun w hSw => by
    have q0 := hSw.2
    obtain ⟨q00, q01, q02, q03, q04⟩ := Kn.own5 q0
    clear q0
    go_simp) ?_
   refine Kn.takeR 2 ⟨none, _, _, _, _, _⟩ fun K hK => ?_
   refine step_store_own rfl 56 (.tmp 4) (.tmp 63) rfl fr [.int .i64 0, .int .i64 0, .int .i64 0, .slice none 0 0, .slice none 0 0] [.int .i64 0, .int .i64 0, .int .i64 0, .slice none 0 0, .slice none 0 0] (by kernel_rfl) rfl rfl (HY.out.boxi 2 rfl) rfl (by intro u hu; simp at hu; rcases hu with rfl | rfl <;> rfl) ?_
   intro wa ho hO
   have HY1 := Lib.hid (HY.out.call1 2 rfl ho hO)
   clear ho hO HY
   refine hK.out _ _ ⟨HY1.out.boxi 2 rfl, HY1.out.boxi 1 rfl⟩ (fun hSn => ?_)
   clear hK K hSw0
   have hSw0 := hSn
   clear hSn
   refine Kn.takeR 3 ⟨none, _, _, _, _, _⟩ fun K hK => ?_
   refine step_store_own rfl 32 (.tmp 5) (.tmp 64) rfl fn [.int .i64 0, .int .i64 0, .int .i64 0, .int .i64 0, .int .i64 0] [.int .i64 0, .int .i64 0, .int .i64 0, .int .i64 0, .int .i64 0] (by kernel_rfl) rfl rfl (HY1.out.boxi 1 rfl) rfl (by intro u hu; simp at hu; subst hu; rfl) ?_
   intro wy ho hO
   have HY2 := Lib.hid (HY1.out.call1 1 rfl ho hO)
   clear ho hO HY1
   refine hK.out _ _ ⟨HY2.out.boxi 2 rfl, HY2.out.boxi 1 rfl⟩ (fun hSn => ?_)
   clear hK K hSw0
   have hSw0 := hSn
   clear hSn
   refine Kn.takeS 4 ⟨some 6, _, _, _, _, _⟩ ?_
   refine wpAnyH_done (by kernel_rfl) ?_ _
   clear hSw0
   have HFOL := Lib.hid ((follow_err (d := d) (c := cf) (p := q) ⟨ho0, by omega⟩ HA.out (by rw [HZ.out]; exact hz0)).trans (by rw [HZ.out]))
   have br := HY2.out.boxi 2 rfl
   have bn := HY2.out.boxi 1 rfl
   obtain ⟨r0, r1, r2, r3, r4⟩ := Kn.own5 br
   obtain ⟨n0, n1, n2, n3, n4⟩ := Kn.own5 bn
   clear br bn
   go_wp2
   (try simp only [Exit.inBlock, Exit.then])
   refine bodyPost_ret (v := .tuple #[.agg #[.int .i64 0, .int .i64 0, .int .i64 0, .slice none 0 0, .slice none 0 0], .agg #[.int .i64 0, .int .i64 0, .int .i64 0, .int .i64 0, .int .i64 0], .bool false]) ?_ rfl ?_
   ·simp only [results, HRES.out]
    go_simp
   ·have HYs : Wk w0 wb wy ((S, SB pd.D gb p own e z) :: (fn, [.int .i64 0, .int .i64 0, .int .i64 0, .int .i64 0, .int .i64 0]) :: (fr, [.int .i64 0, .int .i64 0, .int .i64 0, .slice none 0 0, .slice none 0 0]) :: (fq, [.int .i64 q.s, .int .i64 q.o, .int .i64 q.l, .int .i64 q.p, .int .i64 q.m]) :: L) (_ :: G) F := HY2.out
    exact OneSays.no HFOL.out ((HYs.sub (L' := (S, SB pd.D gb p own e z) :: L) (F' := F) (.cons_cons _ (.cons _ (.cons _ (.cons _ (List.Sublist.refl _))))) (fun f hf => hf)).subG (G' := G) (by simp))
end Go.Proofs.YtgcfdjcpcclcjaaGreat
