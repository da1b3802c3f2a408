/- WrF, WrG, WrH, WrI, UsC, RfT, HlP, TbQ, MdW, SpcP: joined by pack.py, without what the claim does not use. -/
import Derived.Test.YtgcfdjcpcclcjaaGreatWriterBackF
set_option linter.unusedVariables false
set_option linter.unusedSimpArgs false
namespace Go.Proofs.YtgcfdjcpcclcjaaGreat
open Go Go.RowKit Go.Kn
theorem td_perm {q : TD} {t : Tb} {x : Nat × List Value} {L : List (Nat × List Value)} : (x :: q.L t L).Perm (q.L t (x :: L)) := perm_any (fun c => by simp only [TD.L, List.map_cons, List.sum_cons]; omega)
theorem duo_seal {w0 w : World} {p : PD} {r : RD} {d e : Dk} {q : TD} {t : Tb} {x : Nat × List Value} {L : List (Nat × List Value)} {G : List Gs} {F : List (World → Prop)} (s : Int) (h : Duo w0 w p r d e ⟨x :: q.L t L, G, F⟩) (ht : t.Ok q.n) (hn : q.n ≤ 1000) :
  Calls Tryz.prog 114 #[.pointer (some ⟨q.T, 0, none⟩), .int .i64 s] w fun en w' => en = .returned (.tuple #[]) ∧ Duo w0 w' p r d e ⟨x :: q.L (t.shut s) L, G, F⟩ := by
 obtain ⟨L0, G0, F0, hw, back⟩ := (h.permL td_perm).fr
 refine (us_seal_any w0 w q t s ((x :: L) ++ L0) (G ++ G0) (F ++ F0) hw ht hn).mono ?_
 rintro en w1 ⟨rfl, h1⟩
 exact ⟨rfl, (back w1 ⟨q.L (t.shut s) (x :: L), G, F⟩ h1).permL td_perm.symm⟩
theorem duo_grab {w0 w : World} {p : PD} {r : RD} {d e : Dk} {q : TD} {t : Tb} {L : List (Nat × List Value)} {G : List Gs} {F : List (World → Prop)} (s : Int) (h : Duo w0 w p r d e ⟨q.L t L, G, F⟩) (ht : t.Ok q.n) (hn : q.n ≤ 1000) :
  Calls Tryz.prog 112 #[.pointer (some ⟨q.T, 0, none⟩), .int .i64 s] w fun en w' => en = .returned (.bool (t.grabs s)) ∧ Duo w0 w' p r d e ⟨q.L (t.grab s) L, G, F⟩ := by
 obtain ⟨L0, G0, F0, hw, back⟩ := h.fr
 refine (us_grab_any w0 w q t s (L ++ L0) (G ++ G0) (F ++ F0) hw ht hn).mono ?_
 rintro en w1 ⟨rfl, h1⟩
 exact ⟨rfl, back w1 ⟨q.L (t.grab s) L, G, F⟩ h1⟩
theorem duo_take {w0 w : World} {p : PD} {r : RD} {d e : Dk} {q : TD} {t : Tb} {x : Nat × List Value} {L : List (Nat × List Value)} {G : List Gs} {F : List (World → Prop)} (spare : Bool) (h : Duo w0 w p r d e ⟨x :: q.L t L, G, F⟩) (ht : t.Ok q.n) (hn : q.n ≤ 1000) :
  Calls Tryz.prog 168 #[.pointer (some ⟨q.T, 0, none⟩), .bool spare] w fun en w' => en = .returned (.tuple #[.int .i64 (t.take spare).2.1, .bool (t.take spare).2.2]) ∧ Duo w0 w' p r d e ⟨x :: q.L (t.take spare).1 L, G, F⟩ := by
 obtain ⟨L0, G0, F0, hw, back⟩ := (h.permL td_perm).fr
 refine (us_take_any w0 w q t spare ((x :: L) ++ L0) (G ++ G0) (F ++ F0) hw ht hn).mono ?_
 rintro en w1 ⟨rfl, h1⟩
 exact ⟨rfl, (back w1 ⟨q.L (t.take spare).1 (x :: L), G, F⟩ h1).permL td_perm.symm⟩
theorem its_ofOwn {w : World} {g n : Nat} {l : List It} (h : Kn.Own w g (itsV l)) (hn : l.length = n) (hm : n ≤ maxLen) : Its w (some ⟨g, 0, none⟩) n n l := by
 refine ⟨hn, Nat.le_refl _, hm, fun _ => ⟨g, 0, rfl, fun i hi => ?_⟩⟩
 obtain ⟨c0, c1, c2, c3⟩ := itsV_get l i hi
 have hc : ∀ (a : Nat) (u : Value), (itsV l)[a]? = some u → w.cell? ⟨g, a, none⟩ = some u := by
  intro a u hu
  obtain ⟨h1, h2⟩ := List.getElem?_eq_some_iff.1 hu
  rw [← h2]
  exact h.cell a h1
 simp only [Nat.zero_add]
 exact ⟨hc _ _ c0, hc _ _ c1, hc _ _ c2, hc _ _ c3⟩
theorem writeW_s (d : Dk) (t : Tb) (c : Cf) (q : Ps) (its : List It) (bl : List (List UInt8)) : (writeW d t c q its bl).2.2.1.s = q.s ∧ (writeW d t c q its bl).2.2.1.l ≤ q.l + 1 ∧ q.l ≤ (writeW d t c q its bl).2.2.1.l ∧ (∀ n, t.Ok n → (writeW d t c q its bl).2.1.Ok n) ∧ (writeW d t c q its bl).1.held.length ≤ d.held.length + 7 := by
 unfold writeW
 cases hen : encRc ⟨q.m, q.l, q.p, its, bl⟩ with
 | none => exact ⟨rfl, by show q.l ≤ q.l + 1; omega, by show q.l ≤ q.l; omega, fun _ h => h, by show d.held.length ≤ _; omega⟩
 | some x =>
  obtain ⟨b, s⟩ := x
  obtain ⟨_, _, _, hb64, hb6, _⟩ := enc_some hen
  have h1 : b.length = 64 * (1 + bl.length) := hb64
  have h2 : bl.length ≤ 6 := hb6
  have h3 := seqW_held (rows64 b (b.length / 64)) d (c.at_ q.s + q.o)
  rw [rows64_len] at h3
  simp only
  split
  ·exact ⟨rfl, Int.le_refl _, by show q.l ≤ q.l + 1; omega, fun _ h => h.touch _ _, by show List.length (seqW _ _ _).1.held ≤ _; omega⟩
  ·exact ⟨rfl, by show q.l ≤ q.l + 1; omega, by show q.l ≤ q.l; omega, fun _ h => h, by show List.length (seqW _ _ _).1.held ≤ _; omega⟩
set_option maxRecDepth 100000 in
set_option maxHeartbeats 8000000 in
theorem wr_turn_any (w0 w : World) (p : PD) (r : RD) (e : Dk) (W gb : Nat) (q : TD) (z : Wr) (s : Int) (cf : Cf) (L : List (Nat × List Value)) (G : List Gs) (F : List (World → Prop)) (h : WrIn w0 w p r e W gb q z L G F) (hg : (fun W => GeoAt W gb cf.b cf.s cf.l) ∈ F) (hc : cf.Ok) (ht : z.t.Ok q.n) (hqn : q.n ≤ 1000) (hs : 0 ≤ z.p.s ∧ z.p.s ≤ cf.s - 1) (ho : 0 ≤ z.p.o ∧ z.p.o ≤ 100) (hl : -1000000000000 ≤ z.p.l ∧ z.p.l ≤ 1000000000000) (hh : z.d.held.length ≤ 899000) :
  Calls Tryz.prog 169 #[.pointer (some ⟨W, 0, none⟩), .int .i64 s] w fun en w' => en = .returned (.int .i64 (z.turn cf s).2) ∧ WrIn w0 w' p r e W gb q (z.turn cf s).1 L G F := by
 obtain ⟨d, t, ps, its, bl⟩ := z
 obtain ⟨A, c, B, k, sl, h⟩ := h
 dsimp only at h ht hs ho hl hh
 have HD : Hid (Duo w0 w p r d e ⟨(W, WB p.D gb q.T ps (.slice A its.length c) (.slice B bl.length k)) :: q.L t L, ⟨63, 4, .slice A its.length c, its.length, itsV its⟩ :: ⟨47, 1, .slice B bl.length k, bl.length, sl.map slv⟩ :: G, (fun W => Bls W sl bl) :: F⟩) := Lib.hid h
 have HG := Lib.hid hg
 have HC := Lib.hid hc
 have HT := Lib.hid ht
 have c3 := (HD.out.boxi 0 rfl).cellv 3
 have HIN := Lib.hid (its_ofOwn (n := 1) (l := [⟨7, 0, 0, s⟩]) (Own.new w #[.int .i64 7, .int .i64 0, .int .i64 0, .int .i64 s] 63) rfl (by decide))
 have HA := Lib.hid (HD.out.alloc (.cells #[.int .i64 7, .int .i64 0, .int .i64 0, .int .i64 s] 63))
 have hww := write_W cf ⟨d, t, ps, its, bl⟩ [⟨7, 0, 0, s⟩] []
 obtain ⟨ws1, ws2, ws3, ws4, ws5⟩ := writeW_s d t cf ps [⟨7, 0, 0, s⟩] []
 obtain ⟨d2, t2, p2, e2, hwr⟩ : ∃ d2 t2 p2 e2, writeW d t cf ps [⟨7, 0, 0, s⟩] [] = (d2, t2, p2, e2) := ⟨_, _, _, _, rfl⟩
 dsimp only at hww
 rw [hwr] at hww ws1 ws2 ws3 ws4 ws5
 dsimp only at hww ws1 ws2 ws3 ws4 ws5
 have hem : Wr.turn cf ⟨d, t, ps, its, bl⟩ s = if e2 ≠ 0 then (⟨d2, t2, p2, its, bl⟩, e2) else Wr.begin_ cf ⟨d2, t2.shut ps.s, { p2 with s := s, o := 0 }, its, bl⟩ := by
  unfold Wr.turn
  rw [hww]
 have HEM := Lib.hid hem
 have HWR := Lib.hid hwr
 have HT2 := Lib.hid (ws4 _ HT.out)
 have HH2 : Hid (d2.held.length ≤ 1000000) := Lib.hid (by omega)
 clear h hg hc ht hww hem hwr ws4
 go_enter Tryz.func169, Tryz.ntmps169
 go_wp2_with fail
 refine (wr_write_any w0 _ p r d e W gb q t ps _ _ cf [⟨7, 0, 0, s⟩] [] _ none 1 1 0 0 L _ _ HA.out (List.mem_cons_of_mem _ HG.out) HC.out HT.out hqn HIN.out ⟨[], ⟨rfl, Nat.le_refl _, by decide, fun h => absurd h (by decide)⟩, Bls.nil⟩ hs ho hl (by omega)).mono ?_
 rw [HWR.out]
 rintro en w1 ⟨rfl, hd⟩
 have HZ := Lib.hid hd
 clear hd HA HIN HD c3
 go_upto_if 18 with (fail)
 by_cases he : e2 = 0
 ·subst he
  have c2 := (HZ.out.boxi 0 rfl).cellv 2
  have hem := HEM.out
  rw [if_neg (by decide), begin_W] at hem
  dsimp only at hem
  obtain ⟨d3, p3, e3, hbg⟩ : ∃ d3 p3 e3, beginW d2 cf { p2 with s := s, o := 0 } = (d3, p3, e3) := ⟨_, _, _, rfl⟩
  rw [hbg] at hem
  dsimp only at hem
  have HEM2 := Lib.hid hem
  have HBG := Lib.hid hbg
  clear hem hbg HEM
  go_wp2_with fail
  refine (duo_seal ps.s HZ.out HT2.out hqn).mono ?_
  rintro en w2 ⟨rfl, hd⟩
  have HS := Lib.hid hd
  clear hd HZ c2
  have b1 := HS.out.boxi 0 rfl
  have y3 := b1.cellv 3
  have z3 := b1.frozen 3
  have y4 := b1.cellv 4
  have z4 := b1.frozen 4
  have l4 := b1.lt
  have HE : Hid (Duo w0 ((w2.setCell ⟨W, 3, none⟩ (.int .i64 s)).setCell ⟨W, 4, none⟩ (.int .i64 0)) p r d2 e ⟨(W, WB p.D gb q.T { p2 with s := s, o := 0 } (.slice A its.length c) (.slice B bl.length k)) :: q.L (t2.shut ps.s) L, ⟨63, 4, .slice A its.length c, its.length, itsV its⟩ :: ⟨47, 1, .slice B bl.length k, bl.length, sl.map slv⟩ :: G, (fun W => Bls W sl bl) :: F⟩) := Lib.hid ((HS.out.put 0 rfl 3 (.int .i64 s)).put 0 rfl 4 (.int .i64 0))
  clear b1 HS
  go_wp2_with fail
  refine (wr_begin_any w0 _ p r d2 e W gb q.T { p2 with s := s, o := 0 } _ _ cf _ _ _ HE.out (List.mem_cons_of_mem _ HG.out) HC.out HH2.out).mono ?_
  rw [HBG.out]
  rintro en w3 ⟨rfl, hd⟩
  have HF := Lib.hid hd
  clear hd HE y3 z3 y4 z4 l4
  go_wp2
  go_ret
  rw [HEM2.out]
  exact ⟨rfl, A, c, B, k, sl, HF.out⟩
 ·have heb : (e2 != 0) = true := by rw [bne_iff_ne]; exact he
  have hem := HEM.out
  rw [if_pos he] at hem
  have HEM2 := Lib.hid hem
  clear hem HEM
  go_wp2
  go_ret
  rw [HEM2.out]
  exact ⟨rfl, A, c, B, k, sl, HZ.out⟩
end Go.Proofs.YtgcfdjcpcclcjaaGreat
namespace Go.Proofs.YtgcfdjcpcclcjaaGreat
open Go Go.RowKit Go.Kn
theorem writeW_o (d : Dk) (t : Tb) (c : Cf) (q : Ps) (its : List It) (bl : List (List UInt8)) : (writeW d t c q its bl).2.2.1.o = q.o ∨ (writeW d t c q its bl).2.2.1.o = behind q.o bl.length := by
 unfold writeW
 cases encRc ⟨q.m, q.l, q.p, its, bl⟩ with
 | none => exact .inl rfl
 | some x =>
  obtain ⟨b, s⟩ := x
  simp only
  split
  ·exact .inr rfl
  ·exact .inl rfl
theorem emit_s (c : Cf) (z : Wr) (ho : 0 ≤ z.p.o) : (z.emit c).1.p.s = z.p.s ∧ z.p.l ≤ (z.emit c).1.p.l ∧ (z.emit c).1.p.l ≤ z.p.l + 1 ∧ (∀ n, z.t.Ok n → (z.emit c).1.t.Ok n) ∧ (z.emit c).1.d.held.length ≤ z.d.held.length + 8 ∧ 0 ≤ (z.emit c).1.p.o ∧ (z.emit c).1.p.o ≤ z.p.o + 2 + z.bl.length := by
 obtain ⟨d, t, ps, its, bl⟩ := z
 unfold Wr.emit
 by_cases h1 : d.off = true
 ·rw [if_pos h1]
  exact ⟨rfl, Int.le_refl _, by show ps.l ≤ ps.l + 1; omega, fun _ h => h, by show d.held.length ≤ d.held.length + 8; omega, ho, by show ps.o ≤ ps.o + 2 + _; omega⟩
 rw [if_neg h1]
 by_cases h2 : its = []
 ·rw [if_pos h2]
  exact ⟨rfl, Int.le_refl _, by show ps.l ≤ ps.l + 1; omega, fun _ h => h, by show d.held.length ≤ d.held.length + 8; omega, ho, by show ps.o ≤ ps.o + 2 + _; omega⟩
 rw [if_neg h2, begin_W]
 obtain ⟨b1, b2, b3, b4⟩ := beginW_s d c ps
 obtain ⟨d1, p1, e1, hbg⟩ : ∃ d1 p1 e1, beginW d c ps = (d1, p1, e1) := ⟨_, _, _, rfl⟩
 dsimp only
 rw [hbg] at b1 b2 b3 b4 ⊢
 dsimp only at b1 b2 b3 b4 ⊢
 have ho' : 0 ≤ ps.o := ho
 have hp : 0 ≤ p1.o ∧ p1.o ≤ ps.o + 1 := by rcases b3 with h | h <;> omega
 split
 ·exact ⟨b1, by show ps.l ≤ p1.l; omega, by show p1.l ≤ ps.l + 1; omega, fun _ h => h, by show d1.held.length ≤ d.held.length + 8; omega, hp.1, by show p1.o ≤ ps.o + 2 + _; omega⟩
 ·rw [write_W]
  dsimp only
  obtain ⟨w1, w2, w3, w4, w5⟩ := writeW_s d1 t c p1 its bl
  have w6 := writeW_o d1 t c p1 its bl
  obtain ⟨d2, t2, p2, e2, hwr⟩ : ∃ d2 t2 p2 e2, writeW d1 t c p1 its bl = (d2, t2, p2, e2) := ⟨_, _, _, _, rfl⟩
  rw [hwr] at w1 w2 w3 w4 w5 w6 ⊢
  dsimp only at w1 w2 w3 w4 w5 w6 ⊢
  have w7 : 0 ≤ p2.o ∧ p2.o ≤ ps.o + 2 + (bl.length : Int) := by
   rcases w6 with h | h
   ·omega
   ·unfold behind at h
    rcases b3 with h | h <;> omega
  split
  ·exact ⟨by show p2.s = ps.s; rw [w1, b1], by show ps.l ≤ p2.l; omega, by show p2.l ≤ ps.l + 1; omega, w4, by show d2.held.length ≤ d.held.length + 8; omega, w7.1, w7.2⟩
  ·exact ⟨by show p2.s = ps.s; rw [w1, b1], by show ps.l ≤ p2.l; omega, by show p2.l ≤ ps.l + 1; omega, w4, by show d2.held.length ≤ d.held.length + 8; omega, w7.1, w7.2⟩
set_option maxRecDepth 100000 in
set_option maxHeartbeats 8000000 in
theorem wr_room_any (w0 w : World) (p : PD) (r : RD) (e : Dk) (W gb : Nat) (q : TD) (z : Wr) (nb : Nat) (spare : Bool) (cf : Cf) (L : List (Nat × List Value)) (G : List Gs) (F : List (World → Prop)) (h : WrIn w0 w p r e W gb q z L G F) (hg : (fun W => GeoAt W gb cf.b cf.s cf.l) ∈ F) (hc : cf.Ok) (ht : z.t.Ok q.n) (hqn : q.n ≤ 1000) (hs : 0 ≤ z.p.s ∧ z.p.s ≤ cf.s - 1) (ho : 0 ≤ z.p.o ∧ z.p.o ≤ 64) (hl : -100000000000 ≤ z.p.l ∧ z.p.l ≤ 100000000000) (hh : z.d.held.length ≤ 880000) (hi : z.its.length ≤ 20) (hb : z.bl.length ≤ 20) (hnb : nb ≤ 1) :
  Calls Tryz.prog 120 #[.pointer (some ⟨W, 0, none⟩), .int .i64 (nb : Int), .bool spare] w fun en w' => en = .returned (.int .i64 (z.room cf nb spare).2) ∧ WrIn w0 w' p r e W gb q (z.room cf nb spare).1 L G F := by
 obtain ⟨d, t, ps, its, bl⟩ := z
 have h0 := h
 obtain ⟨A, c, B, k, sl, h⟩ := h
 dsimp only at h ht hs ho hl hh hi hb
 obtain ⟨n, hn⟩ : ∃ n, its.length = n := ⟨_, rfl⟩
 obtain ⟨m, hm⟩ : ∃ m, bl.length = m := ⟨_, rfl⟩
 have hfin : ∀ (w' : World) (d' : Dk) (t' : Tb) (p' : Ps), Duo w0 w' p r d' e ⟨(W, WB p.D gb q.T p' (.slice A n c) (.slice B m k)) :: q.L (t') L, ⟨63, 4, .slice A n c, n, itsV its⟩ :: ⟨47, 1, .slice B m k, m, sl.map slv⟩ :: G, (fun W => Bls W sl bl) :: F⟩ → WrIn w0 w' p r e W gb q ⟨d', t', p', its, bl⟩ L G F := fun w' d' t' p' hx => ⟨A, c, B, k, sl, by rw [hn, hm]; exact hx⟩
 have hro : Wr.room cf ⟨d, t, ps, its, bl⟩ nb spare = if Wr.fits cf ps.o (n + 1) (m + nb) = true then (⟨d, t, ps, its, bl⟩, 0) else if Wr.fits cf (if n = 0 then ps.o else behind ps.o m) 1 nb = true then Wr.emit cf ⟨d, t, ps, its, bl⟩ else if (t.take spare).2.2 = true then (if (Wr.emit cf ⟨d, (t.take spare).1, ps, its, bl⟩).2 ≠ 0 then Wr.emit cf ⟨d, (t.take spare).1, ps, its, bl⟩ else (Wr.emit cf ⟨d, (t.take spare).1, ps, its, bl⟩).1.turn cf (t.take spare).2.1) else (⟨d, t, ps, its, bl⟩, 6) := by
  have he : (if its = [] then ps.o else behind ps.o bl.length) = (if n = 0 then ps.o else behind ps.o m) := by
   rw [← hn, ← hm]
   by_cases hx : its = []
   ·rw [if_pos hx, if_pos (by rw [hx]; rfl)]
   ·rw [if_neg hx, if_neg (fun h => hx (List.eq_nil_of_length_eq_zero h))]
  unfold Wr.room
  dsimp only
  rw [he, hn, hm]
  unfold Tb.take
  by_cases hx : t.takes spare = true ∧ Tb.idx t.us ≠ -1
  ·rw [if_pos hx, if_pos hx]
   rfl
  ·rw [if_neg hx, if_neg hx]
   rfl
 have htk : (t.take spare).2.2 = false → (t.take spare).1 = t := by
  unfold Tb.take
  split
  ·intro h; cases h
  ·exact fun _ => rfl
 have htok : (t.take spare).1.Ok q.n := by
  unfold Tb.take
  split
  ·exact ht.grab _
  ·exact ht
 rw [hn] at hi
 rw [hm] at hb
 rw [hn, hm] at h
 have HD : Hid (Duo w0 w p r d e ⟨(W, WB p.D gb q.T ps (.slice A n c) (.slice B m k)) :: q.L (t) L, ⟨63, 4, .slice A n c, n, itsV its⟩ :: ⟨47, 1, .slice B m k, m, sl.map slv⟩ :: G, (fun W => Bls W sl bl) :: F⟩) := Lib.hid h
 have HG := Lib.hid hg
 have HC := Lib.hid hc
 have HT := Lib.hid ht
 have HN := Lib.hid hn
 have HM := Lib.hid hm
 have HFIN := Lib.hid hfin
 have HRO := Lib.hid hro
 have HTK := Lib.hid htk
 have HTO := Lib.hid htok
 obtain ⟨fi, hfi⟩ : ∃ x, Wr.fits cf ps.o (n + 1) (m + nb) = x := ⟨_, rfl⟩
 obtain ⟨o2, ho2⟩ : ∃ x, (if n = 0 then ps.o else behind ps.o m) = x := ⟨_, rfl⟩
 obtain ⟨fj, hfj⟩ : ∃ x, Wr.fits cf o2 1 nb = x := ⟨_, rfl⟩
 have ho2b : 0 ≤ o2 ∧ o2 ≤ 200 := by
  rw [← ho2]
  split
  ·omega
  ·unfold behind; omega
 have HFI := Lib.hid hfi
 have HFJ := Lib.hid hfj
 have HO2 := Lib.hid ho2
 have hwn : IntKind.i64.wrap ((n : Int) + 1) = ((n + 1 : Nat) : Int) := by rw [show (n : Int) + 1 = ((n + 1 : Nat) : Int) from by omega]; exact IntWalk.i64_in _ (by omega)
 have hwm : IntKind.i64.wrap ((m : Int) + (nb : Int)) = ((m + nb : Nat) : Int) := by rw [show (m : Int) + (nb : Int) = ((m + nb : Nat) : Int) from by omega]; exact IntWalk.i64_in _ (by omega)
 clear h h0 hg hc ht hn hm hfin hro hfi hfj ho2 htk htok
 go_enter Tryz.func120, Tryz.ntmps120
 go_wp2_with fail
 go_cut [30] from 11 (fun s30 wy => s30 = .bool fi ∧ Duo w0 wy p r d e ⟨(W, WB p.D gb q.T ps (.slice A n c) (.slice B m k)) :: q.L (t) L, ⟨63, 4, .slice A n c, n, itsV its⟩ :: ⟨47, 1, .slice B m k, m, sl.map slv⟩ :: G, (fun W => Bls W sl bl) :: F⟩)
 case first =>
  have HY := Lib.hid HD.out.drew
  clear HD
  refine wp_region_held_drew (S := (fun w' => Kn.Own w' W (WB p.D gb q.T ps (.slice A n c) (.slice B m k)))) (by kernel_rfl) (HY.out.boxi 0 rfl) (fun hSw0 => ?_)
  generalize w.drew = wz at *
  refine Kn.takeS 0 ⟨some 11, _, _, _, _, _⟩ ?_
  refine Kn.takeS 1 ⟨some 12, _, _, _, _, _⟩ ?_
  refine Kn.takeS 2 ⟨some 13, _, _, _, _, _⟩ ?_
  refine Kn.takeS 3 ⟨some 14, _, _, _, _, _⟩ ?_
  refine Kn.takeS 4 ⟨some 15, _, _, _, _, _⟩ ?_
  refine Kn.takeS 5 ⟨some 16, _, _, _, _, _⟩ (v := (.int .i64 ps.o)) (hy := fun w hSw => by
   have q0 := hSw.cellv 4
   go_simp) ?_
  refine Kn.takeS 6 ⟨some 17, _, _, _, _, _⟩ ?_
  refine Kn.takeS 7 ⟨some 18, _, _, _, _, _⟩ ?_
  refine Kn.takeS 8 ⟨some 19, _, _, _, _, _⟩ ?_
  refine Kn.takeS 9 ⟨some 20, _, _, _, _, _⟩ (v := (.slice A n c)) (hy := fun w hSw => by
   have q0 := hSw.cellv 8
   go_simp) ?_
  refine Kn.takeS 10 ⟨some 21, _, _, _, _, _⟩ ?_
  refine Kn.takeS 11 ⟨some 22, _, _, _, _, _⟩ ?_
  refine Kn.takeS 12 ⟨some 23, _, _, _, _, _⟩ ?_
  refine Kn.takeS 13 ⟨some 24, _, _, _, _, _⟩ ?_
  refine Kn.takeS 14 ⟨some 25, _, _, _, _, _⟩ ?_
  refine Kn.takeS 15 ⟨some 26, _, _, _, _, _⟩ (v := (.slice B m k)) (hy := fun w hSw => by
   have q0 := hSw.cellv 9
   go_simp) ?_
  refine Kn.takeS 16 ⟨some 27, _, _, _, _, _⟩ ?_
  refine Kn.takeS 17 ⟨some 28, _, _, _, _, _⟩ ?_
  refine Kn.takeS 18 ⟨some 29, _, _, _, _, _⟩ ?_
  refine Kn.takeR 19 ⟨some 30, _, _, _, _, _⟩ fun K hK => ?_
  go_simp
  refine (wr_fits_any _ W p.D gb q.T ps _ _ cf ps.o (n + 1) (m + nb) (HY.out.boxi 0 rfl) (HY.out.fact (f := (fun W => GeoAt W gb cf.b cf.s cf.l)) (List.mem_cons_of_mem _ HG.out)) HC.out (by omega) (by omega) (by omega)).mono ?_
  rintro en w1 ⟨rfl, hO⟩
  rw [HFI.out]
  have HZ := Lib.hid (HY.out.keep0 hO)
  clear hO HY
  refine hK.out _ _ (HZ.out.boxi 0 rfl) (fun hSn => ?_)
  clear hK K hSw0
  have hSw0 := hSn
  clear hSn
  refine wpAnyH_done (by kernel_rfl) ?_ _
  clear hSw0
  go_wp2
  go_meet
  case rel => exact ⟨rfl, HZ.out⟩
 case rest =>
  obtain ⟨rfl, hd⟩ := hcut
  have HD1 := Lib.hid hd
  clear hd HD hwn hwm
  by_cases h1 : fi = true
  ·subst h1
   have hro := HRO.out
   rw [HFI.out, if_pos rfl] at hro
   have HR2 := Lib.hid hro
   clear hro HRO HFI
   go_wp2
   go_ret
   rw [HR2.out]
   exact ⟨rfl, HFIN.out _ _ _ _ HD1.out⟩
  ·rw [Bool.not_eq_true] at h1
   subst h1
   have hro := HRO.out
   rw [HFI.out, if_neg (by decide), HO2.out, HFJ.out] at hro
   have HR2 := Lib.hid hro
   clear hro HRO HFI
   have b0 := HD1.out.boxi 0 rfl
   have c4 := b0.cellv 4
   have c8 := b0.cellv 8
   have c9 := b0.cellv 9
   clear b0
   go_upto_if 41 with (fail)
   go_cut [7] from 11 (fun s7 wy => s7 = .int .i64 o2 ∧ wc = wy)
   case first =>
    by_cases hn0 : n = 0
    ·have ho3 : o2 = ps.o := by rw [← HO2.out, if_pos hn0]
     have HO3 := Lib.hid ho3
     have hnf : ¬ (n : Int) > 0 := by omega
     clear ho3 hn0
     go_wp2
     go_meet
     case rel => exact ⟨by rw [HO3.out], rfl⟩
    ·have ho3 : o2 = behind ps.o m := by rw [← HO2.out, if_neg hn0]
     have HO3 := Lib.hid ho3
     have hnf : (n : Int) > 0 := by omega
     clear ho3 hn0
     go_wp2_with fail
     refine (wr_behind_any ps.o m _ (by omega) (by omega)).mono ?_
     rintro en w5 ⟨rfl, rfl⟩
     go_wp2
     go_meet
     case rel => exact ⟨by rw [HO3.out], rfl⟩
   case rest =>
    obtain ⟨rfl, rfl⟩ := hcut
    clear c4 c8 c9
    go_wp2_with fail
    refine (wr_fits_any _ W p.D gb q.T ps _ _ cf o2 1 nb (HD1.out.boxi 0 rfl) (HD1.out.fact (f := (fun W => GeoAt W gb cf.b cf.s cf.l)) (List.mem_cons_of_mem _ HG.out)) HC.out (by omega) (by omega) (by omega)).mono ?_
    rintro en w5 ⟨rfl, hO⟩
    rw [HFJ.out]
    have HD2 := Lib.hid (HD1.out.keep0 hO)
    clear hO HD1
    by_cases h2 : fj = true
    ·subst h2
     have hro := HR2.out
     rw [if_pos rfl] at hro
     have HR3 := Lib.hid hro
     clear hro HR2 HFJ
     go_wp2_with fail
     refine (wr_emit_any w0 _ p r e W gb q ⟨d, t, ps, its, bl⟩ cf L G F (HFIN.out _ _ _ _ HD2.out) HG.out HC.out HT.out hqn hs ho (by dsimp only; omega) (by dsimp only; omega)).mono ?_
     rintro en w6 ⟨rfl, hd⟩
     have HE := Lib.hid hd
     clear hd HD2
     go_wp2
     go_ret
     rw [HR3.out]
     exact ⟨rfl, HE.out⟩
    ·rw [Bool.not_eq_true] at h2
     subst h2
     have hro := HR2.out
     rw [if_neg (by decide)] at hro
     have HR3 := Lib.hid hro
     have c2 := (HD2.out.boxi 0 rfl).cellv 2
     clear hro HR2 HFJ
     go_wp2_with fail
     refine (duo_take spare HD2.out HT.out hqn).mono ?_
     rintro en w6 ⟨rfl, hd⟩
     obtain ⟨t2, s2, ok, htk⟩ : ∃ t2 s2 ok, t.take spare = (t2, s2, ok) := ⟨_, _, _, rfl⟩
     have hro := HR3.out
     have hh2 := HTK.out
     have hh3 := HTO.out
     rw [htk] at hd hro hh2 hh3 ⊢
     dsimp only at hd hro hh2 hh3 ⊢
     have HR4 := Lib.hid hro
     have HT2 := Lib.hid hh3
     have HTE := Lib.hid hh2
     have HD3 : Hid (Duo w0 w6 p r d e ⟨(W, WB p.D gb q.T ps (.slice A n c) (.slice B m k)) :: q.L (t2) L, ⟨63, 4, .slice A n c, n, itsV its⟩ :: ⟨47, 1, .slice B m k, m, sl.map slv⟩ :: G, (fun W => Bls W sl bl) :: F⟩) := Lib.hid hd
     clear hd hro hh2 hh3 htk HD2 c2 HR3 HTK HTO
     by_cases h3 : ok = true
     ·subst h3
      have hro := HR4.out
      rw [if_pos rfl] at hro
      have HR5 := Lib.hid hro
      obtain ⟨es1, es2, es3, es4, es5, es6, es7⟩ := emit_s cf ⟨d, t2, ps, its, bl⟩ ho.1
      have hlen : bl.length = m := HM.out
      dsimp only at es1 es2 es3 es4 es5 es6 es7
      rw [hlen] at es7
      obtain ⟨z2, e2, hem⟩ : ∃ z2 e2, Wr.emit cf ⟨d, t2, ps, its, bl⟩ = (z2, e2) := ⟨_, _, rfl⟩
      rw [hem] at hro es1 es2 es3 es4 es5 es6 es7
      dsimp only at hro es1 es2 es3 es4 es5 es6 es7
      have HR6 := Lib.hid hro
      have HEM := Lib.hid hem
      have HT3 := Lib.hid (es4 _ HT2.out)
      clear hro HR4 HR5 hem es4 hlen
      go_wp2_with fail
      refine (wr_emit_any w0 _ p r e W gb q ⟨d, t2, ps, its, bl⟩ cf L G F (HFIN.out _ _ _ _ HD3.out) HG.out HC.out HT2.out hqn hs ho (by dsimp only; omega) (by dsimp only; omega)).mono ?_
      rw [HEM.out]
      rintro en w7 ⟨rfl, hd⟩
      have HE := Lib.hid hd
      clear hd HD3
      by_cases h4 : e2 = 0
      ·subst h4
       have hro := HR6.out
       rw [if_neg (by decide)] at hro
       have HR7 := Lib.hid hro
       clear hro HR6
       go_wp2_with fail
       refine (wr_turn_any w0 _ p r e W gb q z2 s2 cf L G F HE.out HG.out HC.out HT3.out hqn (by rw [es1]; exact hs) (by omega) (by omega) (by omega)).mono ?_
       rintro en w8 ⟨rfl, hd⟩
       have HX := Lib.hid hd
       clear hd HE
       go_wp2
       go_ret
       rw [HR7.out]
       exact ⟨rfl, HX.out⟩
      ·have heb : (e2 != 0) = true := by rw [bne_iff_ne]; exact h4
       have hro := HR6.out
       rw [if_pos h4] at hro
       have HR7 := Lib.hid hro
       clear hro HR6
       go_wp2
       go_ret
       rw [HR7.out]
       exact ⟨rfl, HE.out⟩
     ·rw [Bool.not_eq_true] at h3
      subst h3
      have hro := HR4.out
      rw [if_neg (by decide)] at hro
      have HR5 := Lib.hid hro
      have hte := HTE.out rfl
      subst hte
      clear hro HR4
      go_wp2
      go_ret
      rw [HR5.out]
      exact ⟨rfl, HFIN.out _ _ _ _ HD3.out⟩
end Go.Proofs.YtgcfdjcpcclcjaaGreat
namespace Go.Kn
open Go Go.RowKit
/-- an item that waits: the writer, where its block will lie, the error -/
def Wr.add (c : Cf) (z : Wr) (i : It) (b : List UInt8) (spare : Bool) : Wr × Int × Int :=
 if (i.may && decide (i.k ≠ 7) && decide (b.length = (if i.loaded = true then 64 else 0))) = false then (z, 0, 1)
 else if z.d.off = true then (z, 0, 3)
 else if (z.room c (if i.loaded = true then 1 else 0) spare).2 ≠ 0 then ((z.room c (if i.loaded = true then 1 else 0) spare).1, 0, (z.room c (if i.loaded = true then 1 else 0) spare).2)
 else if i.loaded = true then ({ (z.room c (if i.loaded = true then 1 else 0) spare).1 with bl := (z.room c (if i.loaded = true then 1 else 0) spare).1.bl ++ [b], its := (z.room c (if i.loaded = true then 1 else 0) spare).1.its ++ [i] }, Wr.first c (z.room c (if i.loaded = true then 1 else 0) spare).1 + ((z.room c (if i.loaded = true then 1 else 0) spare).1.bl.length : Int), 0)
 else ({ (z.room c (if i.loaded = true then 1 else 0) spare).1 with its := (z.room c (if i.loaded = true then 1 else 0) spare).1.its ++ [i] }, 0, 0)
theorem at_range {c : Cf} (hc : c.Ok) (s : Int) : -1 ≤ c.at_ s ∧ c.at_ s ≤ 100000 := by
 unfold Cf.at_
 have h1 := rln_bounds hc
 have h2 := pgs_bounds hc
 split
 ·rename_i h
  have h3 := c.prod hc s h.1 (by omega)
  omega
 ·omega
end Go.Kn
namespace Go.Proofs.YtgcfdjcpcclcjaaGreat
open Go Go.RowKit Go.Kn
theorem emit_len (c : Cf) (z : Wr) : (z.emit c).1.its.length ≤ z.its.length ∧ (z.emit c).1.bl.length ≤ z.bl.length := by
 obtain ⟨d, t, ps, its, bl⟩ := z
 unfold Wr.emit
 rw [begin_W]
 dsimp only
 rw [write_W]
 dsimp only
 split
 ·exact ⟨Nat.le_refl _, Nat.le_refl _⟩
 ·split
  ·exact ⟨Nat.le_refl _, Nat.le_refl _⟩
  ·split
   ·exact ⟨Nat.le_refl _, Nat.le_refl _⟩
   ·split
    ·exact ⟨Nat.le_refl _, Nat.le_refl _⟩
    ·exact ⟨Nat.zero_le _, Nat.zero_le _⟩
theorem turn_len (c : Cf) (z : Wr) (s : Int) (ho : 0 ≤ z.p.o) : (z.turn c s).1.its = z.its ∧ (z.turn c s).1.bl = z.bl ∧ 0 ≤ (z.turn c s).1.p.o ∧ (z.turn c s).1.p.o ≤ z.p.o + 2 := by
 obtain ⟨d, t, ps, its, bl⟩ := z
 have ho' : 0 ≤ ps.o := ho
 unfold Wr.turn
 rw [write_W]
 dsimp only
 have w6 := writeW_o d t c ps [⟨7, 0, 0, s⟩] []
 obtain ⟨d2, t2, p2, e2, hwr⟩ : ∃ d2 t2 p2 e2, writeW d t c ps [⟨7, 0, 0, s⟩] [] = (d2, t2, p2, e2) := ⟨_, _, _, _, rfl⟩
 rw [hwr] at w6 ⊢
 dsimp only at w6 ⊢
 have w7 : 0 ≤ p2.o ∧ p2.o ≤ ps.o + 2 := by
  rcases w6 with h | h
  ·omega
  ·unfold behind at h
   simp only [List.length_nil] at h
   omega
 split
 ·exact ⟨rfl, rfl, w7.1, w7.2⟩
 ·rw [begin_W]
  dsimp only
  obtain ⟨_, _, b3, _⟩ := beginW_s d2 c { p2 with s := s, o := 0 }
  refine ⟨rfl, rfl, ?_, ?_⟩ <;> rcases b3 with h | h <;> rw [h] <;> (try dsimp only) <;> omega
theorem room_s (c : Cf) (z : Wr) (nb : Nat) (spare : Bool) (ho : 0 ≤ z.p.o) : (z.room c nb spare).1.its.length ≤ z.its.length ∧ (z.room c nb spare).1.bl.length ≤ z.bl.length ∧ 0 ≤ (z.room c nb spare).1.p.o ∧ (z.room c nb spare).1.p.o ≤ z.p.o + 4 + z.bl.length := by
 have e1 := emit_s c z ho
 have e2 := emit_len c z
 have f1 := emit_s c { z with t := z.t.grab (Tb.idx z.t.us) } ho
 have f2 := emit_len c { z with t := z.t.grab (Tb.idx z.t.us) }
 obtain ⟨e3, e4⟩ := e1.2.2.2.2.2
 obtain ⟨f3, f4⟩ := f1.2.2.2.2.2
 have f5 := turn_len c _ (Tb.idx z.t.us) f3
 dsimp only at f2 f3 f4
 unfold Wr.room
 by_cases h1 : Wr.fits c z.p.o (z.its.length + 1) (z.bl.length + nb) = true
 ·rw [if_pos h1]
  exact ⟨Nat.le_refl _, Nat.le_refl _, ho, by show z.p.o ≤ _; omega⟩
 rw [if_neg h1]
 by_cases h2 : Wr.fits c (if z.its = [] then z.p.o else behind z.p.o z.bl.length) 1 nb = true
 ·rw [if_pos h2]
  exact ⟨e2.1, e2.2, e3, by omega⟩
 rw [if_neg h2]
 by_cases h3 : z.t.takes spare = true ∧ Tb.idx z.t.us ≠ -1
 ·rw [if_pos h3]
  by_cases h4 : (Wr.emit c { z with t := z.t.grab (Tb.idx z.t.us) }).2 ≠ 0
  ·rw [if_pos h4]
   exact ⟨f2.1, f2.2, f3, by omega⟩
  ·rw [if_neg h4]
   obtain ⟨g1, g2, g3, g4⟩ := f5
   rw [g1, g2]
   exact ⟨f2.1, f2.2, g3, by omega⟩
 ·rw [if_neg h3]
  exact ⟨Nat.le_refl _, Nat.le_refl _, ho, by show z.p.o ≤ _; omega⟩
theorem drop5 {w0 w : World} {p : PD} {r : RD} {d e : Dk} {q : TD} {t : Tb} {x y : Nat × List Value} {L : List (Nat × List Value)} {G : List Gs} {F : List (World → Prop)} (h : Duo w0 w p r d e ⟨x :: q.L t (y :: L), G, F⟩) : Duo w0 w p r d e ⟨x :: q.L t L, G, F⟩ :=
 (h.permL (L' := y :: x :: q.L t L) (perm_any (fun c => by simp only [TD.L, List.map_cons, List.sum_cons]; omega))).ldrop
set_option maxRecDepth 100000 in
set_option maxHeartbeats 16000000 in
theorem wr_add_any (w0 w : World) (p : PD) (r : RD) (e : Dk) (W gb : Nat) (q : TD) (z : Wr) (ik ib ic iv : Int) (Ab : Option Addr) (n cb : Nat) (b : List UInt8) (spare : Bool) (cf : Cf) (L : List (Nat × List Value)) (G : List Gs) (F : List (World → Prop)) (h : WrIn w0 w p r e W gb q z L G F) (hg : (fun W => GeoAt W gb cf.b cf.s cf.l) ∈ F) (hby : (fun W => Bys W Ab n cb b) ∈ F) (hc : cf.Ok) (ht : z.t.Ok q.n) (hqn : q.n ≤ 1000) (hs : 0 ≤ z.p.s ∧ z.p.s ≤ cf.s - 1) (ho : 0 ≤ z.p.o ∧ z.p.o ≤ 64) (hl : -100000000000 ≤ z.p.l ∧ z.p.l ≤ 100000000000) (hh : z.d.held.length ≤ 880000) (hi : z.its.length ≤ 20) (hb : z.bl.length ≤ 20) (hn : n ≤ 100000) :
  Calls Tryz.prog 42 #[.pointer (some ⟨W, 0, none⟩), .agg #[.int .i64 ik, .int .i64 ib, .int .i64 ic, .int .i64 iv], .slice Ab n cb, .bool spare] w fun en w' => en = .returned (.tuple #[.int .i64 (z.add cf ⟨ik, ib, ic, iv⟩ b spare).2.1, .int .i64 (z.add cf ⟨ik, ib, ic, iv⟩ b spare).2.2]) ∧ WrIn w0 w' p r e W gb q (z.add cf ⟨ik, ib, ic, iv⟩ b spare).1 L G F := by
 obtain ⟨i0, hi0, hz0, hz1, hz2⟩ := info_parts Tryz.infoItem
 obtain ⟨i1, hi1, hy0, hy1, hy2⟩ := info_parts Tryz.infoBys
 obtain ⟨d, t, ps, its, bl⟩ := z
 obtain ⟨A, c, B, k, sl, h⟩ := h
 dsimp only at h ht hs ho hl hh hi hb
 obtain ⟨n0, hn0⟩ : ∃ n, its.length = n := ⟨_, rfl⟩
 obtain ⟨m0, hm0⟩ : ∃ m, bl.length = m := ⟨_, rfl⟩
 rw [hn0, hm0] at h
 have hnb : b.length = n := by
  have := (h.fact (List.mem_cons_of_mem _ hby)).len
  rwa [bvs_length] at this
 obtain ⟨f5', hf5⟩ : ∃ f, w.heap.size = f := ⟨_, rfl⟩
 have hperm : ∀ f5 : Nat, ((f5, ([.int .i64 ik, .int .i64 ib, .int .i64 ic, .int .i64 iv] : List Value)) :: (W, WB p.D gb q.T ps (.slice A n0 c) (.slice B m0 k)) :: q.L t L).Perm ((W, WB p.D gb q.T ps (.slice A n0 c) (.slice B m0 k)) :: q.L t ((f5, [.int .i64 ik, .int .i64 ib, .int .i64 ic, .int .i64 iv]) :: L)) := fun f5 => perm_any (fun c => by simp only [TD.L, List.map_cons, List.sum_cons]; omega)
 have hd0 := (h.newB #[.int .i64 ik, .int .i64 ib, .int .i64 ic, .int .i64 iv] 63 (b := w.heap.size) rfl).permL (hperm w.heap.size)
 clear hf5
 have hfin : ∀ (f5 : Nat) (w' : World), Duo w0 w' p r d e ⟨(W, WB p.D gb q.T ps (.slice A n0 c) (.slice B m0 k)) :: q.L t ((f5, [.int .i64 ik, .int .i64 ib, .int .i64 ic, .int .i64 iv]) :: L), ⟨63, 4, .slice A n0 c, n0, itsV its⟩ :: ⟨47, 1, .slice B m0 k, m0, (sl).map slv⟩ :: G, (fun W => Bls W (sl) (bl)) :: F⟩ → WrIn w0 w' p r e W gb q ⟨d, t, ps, its, bl⟩ L G F := fun f5 w' hx => ⟨A, c, B, k, sl, by dsimp only; rw [hn0, hm0]; exact drop5 hx⟩
 have hwi : ∀ (f5 : Nat) (w' : World), Duo w0 w' p r d e ⟨(W, WB p.D gb q.T ps (.slice A n0 c) (.slice B m0 k)) :: q.L t ((f5, [.int .i64 ik, .int .i64 ib, .int .i64 ic, .int .i64 iv]) :: L), ⟨63, 4, .slice A n0 c, n0, itsV its⟩ :: ⟨47, 1, .slice B m0 k, m0, (sl).map slv⟩ :: G, (fun W => Bls W (sl) (bl)) :: F⟩ → WrIn w0 w' p r e W gb q ⟨d, t, ps, its, bl⟩ ((f5, [.int .i64 ik, .int .i64 ib, .int .i64 ic, .int .i64 iv]) :: L) G F := fun f5 w' hx => ⟨A, c, B, k, sl, by dsimp only; rw [hn0, hm0]; exact hx⟩
 have HD := Lib.hid hd0
 have HFIN := Lib.hid (hfin w.heap.size)
 have HWI := Lib.hid (hwi w.heap.size)
 have HG := Lib.hid hg
 have HC := Lib.hid hc
 have HT := Lib.hid ht
 have HBY := Lib.hid hby
 have HNB := Lib.hid hnb
 have HBL : Hid (n = 64 → b.length = 64) := Lib.hid (fun h => hnb.trans h)
 clear h hg hc ht hby hnb hfin hwi hperm hd0 hn0 hm0
 cases hld : It.loaded ⟨ik, ib, ic, iv⟩ with
 | true =>
  have hld2 : It.loaded ⟨ik, ib, ic, iv⟩ = true := hld
  have HLD := Lib.hid hld2
  clear hld hld2
  go_enter Tryz.func42, Tryz.ntmps42
  go_wp2_with fail
  generalize hz : w.alloc (.cells #[.int .i64 ik, .int .i64 ib, .int .i64 ic, .int .i64 iv] 63) = w1 at *
  generalize w.heap.size = f5 at *
  clear hz
  have g5 := own4 (HD.out.boxi 4 rfl)
  obtain ⟨y0, y1, y2, y3⟩ := g5
  refine (item_loaded_any ik ib ic iv _).mono ?_
  rintro en w2 ⟨rfl, hO⟩
  rw [HLD.out]
  have HD2 := Lib.hid (HD.out.keep0 hO)
  obtain ⟨y0, y1, y2, y3⟩ := own4 (HD2.out.boxi 4 rfl)
  clear hO HD
  go_wp2_with fail
  refine (item_may_any ik ib ic iv _).mono ?_
  rintro en w3 ⟨rfl, hO⟩
  have HD3 := Lib.hid (HD2.out.keep0 hO)
  obtain ⟨y0, y1, y2, y3⟩ := own4 (HD3.out.boxi 4 rfl)
  clear hO HD2
  by_cases hok : (It.may ⟨ik, ib, ic, iv⟩ = true ∧ ik ≠ 7) ∧ n = 64
  ·obtain ⟨⟨hm, h7⟩, hns⟩ := hok
   have hnok : (It.may ⟨ik, ib, ic, iv⟩ && decide (ik ≠ 7) && decide (b.length = (if It.loaded ⟨ik, ib, ic, iv⟩ = true then 64 else 0))) = true := by rw [HLD.out, hm, decide_eq_true h7, HNB.out, hns]; rfl
   have h71 : (ik == 7) = false := by simpa using h7
   have HNO := Lib.hid hnok
   subst hns
   rw [hm]
   clear hm h7 hnok
   have c0 := (HD3.out.boxi 0 rfl).cellv 0
   go_wp2_with fail
   refine (duo_off HD3.out).mono ?_
   rintro en w4 ⟨rfl, rfl⟩
   by_cases hof : d.off = true
   ·have had : Wr.add cf ⟨d, t, ps, its, bl⟩ ⟨ik, ib, ic, iv⟩ b spare = (⟨d, t, ps, its, bl⟩, 0, 3) := by
     unfold Wr.add
     rw [if_neg (by rw [HNO.out]; decide), if_pos hof]
    have HAD2 := Lib.hid had
    rw [hof]
    clear had hof c0
    go_wp2
    go_ret2
    rw [HAD2.out]
    exact ⟨rfl, HFIN.out _ HD3.out⟩
   ·have hof2 : d.off = false := by simpa using hof
    obtain ⟨z1, e1, hrm⟩ : ∃ z1 e1, Wr.room cf ⟨d, t, ps, its, bl⟩ 1 spare = (z1, e1) := ⟨_, _, rfl⟩
    have had : Wr.add cf ⟨d, t, ps, its, bl⟩ ⟨ik, ib, ic, iv⟩ b spare = if e1 ≠ 0 then (z1, 0, e1) else ({ z1 with bl := z1.bl ++ [b], its := z1.its ++ [⟨ik, ib, ic, iv⟩] }, Wr.first cf z1 + (z1.bl.length : Int), 0) := by
     unfold Wr.add
     rw [if_neg (by rw [HNO.out]; decide), if_neg hof, HLD.out]
     rw [show (if true = true then 1 else 0 : Nat) = 1 from rfl, hrm]
     dsimp only
     split
     ·rfl
     ·rw [if_pos rfl]
    obtain ⟨rs1, rs2, rs3, rs4⟩ := room_s cf ⟨d, t, ps, its, bl⟩ 1 spare ho.1
    rw [hrm] at rs1 rs2 rs3 rs4
    dsimp only at rs1 rs2 rs3 rs4
    have HAD2 := Lib.hid had
    have HRM := Lib.hid hrm
    rw [hof2]
    clear had hof hof2 hrm c0
    go_wp2_with fail
    refine (wr_room_any w0 _ p r e W gb q ⟨d, t, ps, its, bl⟩ 1 spare cf ((f5, [.int .i64 ik, .int .i64 ib, .int .i64 ic, .int .i64 iv]) :: L) G F (HWI.out _ HD3.out) HG.out HC.out HT.out hqn hs ho hl hh hi hb (by decide)).mono ?_
    rw [HRM.out]
    rintro en w7 ⟨rfl, hd⟩
    obtain ⟨d1, t1, p1, its1, bl1⟩ := z1
    obtain ⟨A1, c1, B1, k1, sl1, hd⟩ := hd
    dsimp only at hd rs1 rs2 rs3 rs4
    obtain ⟨n1, hn1⟩ : ∃ n, its1.length = n := ⟨_, rfl⟩
    obtain ⟨m1, hm1⟩ : ∃ m, bl1.length = m := ⟨_, rfl⟩
    rw [hn1, hm1] at hd
    rw [hn1] at rs1
    rw [hm1] at rs2
    have hm1b : m1 ≤ 20 := by omega
    have hn1b : n1 ≤ 20 := by omega
    have HR : Hid (Duo w0 w7 p r d1 e ⟨(W, WB p.D gb q.T p1 (.slice A1 n1 c1) (.slice B1 m1 k1)) :: q.L t1 ((f5, [.int .i64 ik, .int .i64 ib, .int .i64 ic, .int .i64 iv]) :: L), ⟨63, 4, .slice A1 n1 c1, n1, itsV its1⟩ :: ⟨47, 1, .slice B1 m1 k1, m1, (sl1).map slv⟩ :: G, (fun W => Bls W (sl1) (bl1)) :: F⟩) := Lib.hid hd
    have HN1 := Lib.hid hn1
    have HM1 := Lib.hid hm1
    clear hd HD3 hn1 hm1
    by_cases he : e1 = 0
    ·subst he
     have had := HAD2.out
     rw [if_neg (by decide)] at had
     have HAD3 := Lib.hid had
     clear had HAD2
     go_upto_region 12 with (fail)
     go_cut [] from 12 (fun wy => ∃ (A8 : Option Addr) (c8 : Nat) (sl2 : List (Option Addr × Nat × Nat)), Duo w0 wy p r d1 e ⟨(W, WB p.D gb q.T p1 (.slice A1 n1 c1) (.slice A8 (m1 + 1) c8)) :: q.L t1 ((f5, [.int .i64 ik, .int .i64 ib, .int .i64 ic, .int .i64 iv]) :: L), ⟨63, 4, .slice A1 n1 c1, n1, itsV its1⟩ :: ⟨47, 1, .slice A8 (m1 + 1) c8, (m1 + 1), (sl2).map slv⟩ :: G, (fun W => Bls W (sl2) (bl1 ++ [b])) :: F⟩)
     case first =>
      have HY := Lib.hid HR.out.drew
      clear HR
      refine wp_region_held_drew (S := (fun w' => True)) (by kernel_rfl) trivial (fun hSw0 => ?_)
      generalize w7.drew = wz at *
      refine Kn.takeS 0 ⟨some 49, _, _, _, _, _⟩ ?_
      refine Kn.takeS 1 ⟨some 50, _, _, _, _, _⟩ ?_
      refine Kn.takeS 2 ⟨some 51, _, _, _, _, _⟩ ?_
      refine Kn.takeS 3 ⟨some 52, _, _, _, _, _⟩ ?_
      refine Kn.takeS 5 ⟨some 54, _, _, _, _, _⟩ ?_
      refine wpAnyH_ready (rs := [4, 6]) (by kernel_rfl) (by simp) ?_
      refine AllReadyH.cons (o := ⟨some 53, _, _, _, _, _⟩) rfl (fun K hK => ?_) ?_
      ·have q0 := (HY.out.boxi 0 rfl).cellv 9
       go_simp
       clear q0
       refine hK.out _ _ trivial (fun hSn => ?_)
       clear hK K hSw0
       have hSw0 := hSn
       clear hSn
       refine Kn.takeR 6 ⟨some 55, _, _, _, _, _⟩ fun K hK => ?_
       go_simp
       refine (clone_any Ab 64 cb b _ (HY.out.fact (f := (fun W => Bys W Ab 64 cb b)) (List.mem_cons_of_mem _ HBY.out)) (by omega)).mono ?_
       rintro en v1 ⟨A7, c7, rfl, hcc, hcm, hp, hO⟩
       have HYc := Lib.hid (HY.out.addFc hO (MadeBys.fc hcc hcm hp))
       rw [HBL.out (by trivial)] at HYc ⊢
       clear hcc hcm hp hO HY
       refine hK.out _ _ trivial (fun hSn => ?_)
       clear hK K hSw0
       have hSw0 := hSn
       clear hSn
       refine Kn.takeR 7 ⟨some 56, _, _, _, _, _⟩ fun K hK => ?_
       go_simp
       have HYcb := Lib.hid (HYc.out.alloc (.cells #[.slice A7 64 c7] 47))
       have hnr : Row1 (v1.alloc (.cells #[.slice A7 64 c7] 47)) (some ⟨v1.heap.size, 0, none⟩) 1 1 ([(A7, 64, c7)].map slv) := Row1.of_Own (Own.new v1 #[.slice A7 64 c7] 47) rfl (Nat.le_refl _) (by simp [maxLen])
       have HNR := Lib.hid hnr
       clear hnr
       generalize hvz : v1.heap.size = vz at *
       generalize hvb : v1.alloc (.cells #[.slice A7 64 c7] 47) = vb at *
       clear hvb hvz HYc
       refine hK.out _ _ trivial (fun hSn => ?_)
       clear hK K hSw0
       have hSw0 := hSn
       clear hSn
       refine Kn.takeR 8 ⟨some 57, _, _, _, _, _⟩ fun K hK => ?_
       have hbw := HYcb.out.only.size
       refine step_append_row1 rfl (.tmp 53) (.tmp 56) 54 rfl w0.heap.size 47 i1 _ 24 Tryz.underlying54 hi1 hy0 hy1 hy2 rfl (.slice B1 m1 k1) m1 (sl1.map slv) rfl (HYcb.out.gi 1 rfl) (some ⟨vz, 0, none⟩) 1 1 ([(A7, 64, c7)].map slv) rfl HNR.out (slv_one _) (by unfold maxLen; omega) (by omega) hbw ?_
       intro v' vd hown hgrow hat
       rw [← List.map_append] at hown
       have hdd := HYcb.out.gapp 1 rfl hown hgrow hat
       obtain ⟨A8, c8, rfl⟩ := hdd.gform 1 rfl
       simp only [List.set_cons_zero, List.set_cons_succ] at hdd
       have HYcbd := Lib.hid hdd
       clear hdd hown hgrow hat hbw HYcb HNR
       refine hK.out _ _ trivial (fun hSn => ?_)
       clear hK K hSw0
       have hSw0 := hSn
       clear hSn
       refine Kn.takeS 9 ⟨some 58, _, _, _, _, _⟩ ?_
       refine Kn.takeS 10 ⟨some 59, _, _, _, _, _⟩ ?_
       refine Kn.takeR 11 ⟨none, _, _, _, _, _⟩ fun K hK => ?_
       have b1 := HYcbd.out.boxi 0 rfl
       have y9 := b1.cellv 9
       have z9 := b1.frozen 9
       have l9 := b1.lt
       clear b1
       go_simp
       have HYcbds := Lib.hid (HYcbd.out.put 0 rfl 9 (.slice A8 (m1 + 1) c8))
       clear y9 z9 l9 HYcbd
       refine hK.out _ _ trivial (fun hSn => ?_)
       clear hK K hSw0
       have hSw0 := hSn
       clear hSn
       refine wpAnyH_done (by kernel_rfl) ?_ _
       clear hSw0
       go_wp2
       go_meet
       case rel => exact ⟨A8, c8, sl1 ++ [(A7, 64, c7)], HYcbds.out.impF (fun g hg V hV => (List.mem_cons.1 hg).elim (fun e => by rw [e]; exact (hV (fun W => Bls W sl1 bl1) (by simp)).snoc (hV (fun W => Bys W A7 64 c7 b) (by simp))) (fun hg => hV g (List.mem_cons_of_mem _ (List.mem_cons_of_mem _ hg))))⟩
      refine AllReadyH.cons (o := ⟨some 55, _, _, _, _, _⟩) rfl (fun K hK => ?_) ?_
      ·go_simp
       refine (clone_any Ab 64 cb b _ (HY.out.fact (f := (fun W => Bys W Ab 64 cb b)) (List.mem_cons_of_mem _ HBY.out)) (by omega)).mono ?_
       rintro en v1 ⟨A7, c7, rfl, hcc, hcm, hp, hO⟩
       have HYc := Lib.hid (HY.out.addFc hO (MadeBys.fc hcc hcm hp))
       rw [HBL.out (by trivial)] at HYc ⊢
       clear hcc hcm hp hO HY
       refine hK.out _ _ trivial (fun hSn => ?_)
       clear hK K hSw0
       have hSw0 := hSn
       clear hSn
       refine wpAnyH_ready (rs := [4, 7]) (by kernel_rfl) (by simp) ?_
       refine AllReadyH.cons (o := ⟨some 53, _, _, _, _, _⟩) rfl (fun K hK => ?_) ?_
       ·have q0 := (HYc.out.boxi 0 rfl).cellv 9
        go_simp
        clear q0
        refine hK.out _ _ trivial (fun hSn => ?_)
        clear hK K hSw0
        have hSw0 := hSn
        clear hSn
        refine Kn.takeR 7 ⟨some 56, _, _, _, _, _⟩ fun K hK => ?_
        go_simp
        have HYcb := Lib.hid (HYc.out.alloc (.cells #[.slice A7 64 c7] 47))
        have hnr : Row1 (v1.alloc (.cells #[.slice A7 64 c7] 47)) (some ⟨v1.heap.size, 0, none⟩) 1 1 ([(A7, 64, c7)].map slv) := Row1.of_Own (Own.new v1 #[.slice A7 64 c7] 47) rfl (Nat.le_refl _) (by simp [maxLen])
        have HNR := Lib.hid hnr
        clear hnr
        generalize hvz : v1.heap.size = vz at *
        generalize hvb : v1.alloc (.cells #[.slice A7 64 c7] 47) = vb at *
        clear hvb hvz HYc
        refine hK.out _ _ trivial (fun hSn => ?_)
        clear hK K hSw0
        have hSw0 := hSn
        clear hSn
        refine Kn.takeR 8 ⟨some 57, _, _, _, _, _⟩ fun K hK => ?_
        have hbw := HYcb.out.only.size
        refine step_append_row1 rfl (.tmp 53) (.tmp 56) 54 rfl w0.heap.size 47 i1 _ 24 Tryz.underlying54 hi1 hy0 hy1 hy2 rfl (.slice B1 m1 k1) m1 (sl1.map slv) rfl (HYcb.out.gi 1 rfl) (some ⟨vz, 0, none⟩) 1 1 ([(A7, 64, c7)].map slv) rfl HNR.out (slv_one _) (by unfold maxLen; omega) (by omega) hbw ?_
        intro v' vd hown hgrow hat
        rw [← List.map_append] at hown
        have hdd := HYcb.out.gapp 1 rfl hown hgrow hat
        obtain ⟨A8, c8, rfl⟩ := hdd.gform 1 rfl
        simp only [List.set_cons_zero, List.set_cons_succ] at hdd
        have HYcbd := Lib.hid hdd
        clear hdd hown hgrow hat hbw HYcb HNR
        refine hK.out _ _ trivial (fun hSn => ?_)
        clear hK K hSw0
        have hSw0 := hSn
        clear hSn
        refine Kn.takeS 9 ⟨some 58, _, _, _, _, _⟩ ?_
        refine Kn.takeS 10 ⟨some 59, _, _, _, _, _⟩ ?_
        refine Kn.takeR 11 ⟨none, _, _, _, _, _⟩ fun K hK => ?_
        have b1 := HYcbd.out.boxi 0 rfl
        have y9 := b1.cellv 9
        have z9 := b1.frozen 9
        have l9 := b1.lt
        clear b1
        go_simp
        have HYcbds := Lib.hid (HYcbd.out.put 0 rfl 9 (.slice A8 (m1 + 1) c8))
        clear y9 z9 l9 HYcbd
        refine hK.out _ _ trivial (fun hSn => ?_)
        clear hK K hSw0
        have hSw0 := hSn
        clear hSn
        refine wpAnyH_done (by kernel_rfl) ?_ _
        clear hSw0
        go_wp2
        go_meet
        case rel => exact ⟨A8, c8, sl1 ++ [(A7, 64, c7)], HYcbds.out.impF (fun g hg V hV => (List.mem_cons.1 hg).elim (fun e => by rw [e]; exact (hV (fun W => Bls W sl1 bl1) (by simp)).snoc (hV (fun W => Bys W A7 64 c7 b) (by simp))) (fun hg => hV g (List.mem_cons_of_mem _ (List.mem_cons_of_mem _ hg))))⟩
       refine AllReadyH.cons (o := ⟨some 56, _, _, _, _, _⟩) rfl (fun K hK => ?_) ?_
       ·go_simp
        have HYcb := Lib.hid (HYc.out.alloc (.cells #[.slice A7 64 c7] 47))
        have hnr : Row1 (v1.alloc (.cells #[.slice A7 64 c7] 47)) (some ⟨v1.heap.size, 0, none⟩) 1 1 ([(A7, 64, c7)].map slv) := Row1.of_Own (Own.new v1 #[.slice A7 64 c7] 47) rfl (Nat.le_refl _) (by simp [maxLen])
        have HNR := Lib.hid hnr
        clear hnr
        generalize hvz : v1.heap.size = vz at *
        generalize hvb : v1.alloc (.cells #[.slice A7 64 c7] 47) = vb at *
        clear hvb hvz HYc
        refine hK.out _ _ trivial (fun hSn => ?_)
        clear hK K hSw0
        have hSw0 := hSn
        clear hSn
        refine Kn.takeR 4 ⟨some 53, _, _, _, _, _⟩ fun K hK => ?_
        have q0 := (HYcb.out.boxi 0 rfl).cellv 9
        go_simp
        clear q0
        refine hK.out _ _ trivial (fun hSn => ?_)
        clear hK K hSw0
        have hSw0 := hSn
        clear hSn
        refine Kn.takeR 8 ⟨some 57, _, _, _, _, _⟩ fun K hK => ?_
        have hbw := HYcb.out.only.size
        refine step_append_row1 rfl (.tmp 53) (.tmp 56) 54 rfl w0.heap.size 47 i1 _ 24 Tryz.underlying54 hi1 hy0 hy1 hy2 rfl (.slice B1 m1 k1) m1 (sl1.map slv) rfl (HYcb.out.gi 1 rfl) (some ⟨vz, 0, none⟩) 1 1 ([(A7, 64, c7)].map slv) rfl HNR.out (slv_one _) (by unfold maxLen; omega) (by omega) hbw ?_
        intro v' vd hown hgrow hat
        rw [← List.map_append] at hown
        have hdd := HYcb.out.gapp 1 rfl hown hgrow hat
        obtain ⟨A8, c8, rfl⟩ := hdd.gform 1 rfl
        simp only [List.set_cons_zero, List.set_cons_succ] at hdd
        have HYcbd := Lib.hid hdd
        clear hdd hown hgrow hat hbw HYcb HNR
        refine hK.out _ _ trivial (fun hSn => ?_)
        clear hK K hSw0
        have hSw0 := hSn
        clear hSn
        refine Kn.takeS 9 ⟨some 58, _, _, _, _, _⟩ ?_
        refine Kn.takeS 10 ⟨some 59, _, _, _, _, _⟩ ?_
        refine Kn.takeR 11 ⟨none, _, _, _, _, _⟩ fun K hK => ?_
        have b1 := HYcbd.out.boxi 0 rfl
        have y9 := b1.cellv 9
        have z9 := b1.frozen 9
        have l9 := b1.lt
        clear b1
        go_simp
        have HYcbds := Lib.hid (HYcbd.out.put 0 rfl 9 (.slice A8 (m1 + 1) c8))
        clear y9 z9 l9 HYcbd
        refine hK.out _ _ trivial (fun hSn => ?_)
        clear hK K hSw0
        have hSw0 := hSn
        clear hSn
        refine wpAnyH_done (by kernel_rfl) ?_ _
        clear hSw0
        go_wp2
        go_meet
        case rel => exact ⟨A8, c8, sl1 ++ [(A7, 64, c7)], HYcbds.out.impF (fun g hg V hV => (List.mem_cons.1 hg).elim (fun e => by rw [e]; exact (hV (fun W => Bls W sl1 bl1) (by simp)).snoc (hV (fun W => Bys W A7 64 c7 b) (by simp))) (fun hg => hV g (List.mem_cons_of_mem _ (List.mem_cons_of_mem _ hg))))⟩
       exact AllReadyH.nil
      exact AllReadyH.nil
     case rest =>
      obtain ⟨A8, c8, sl2, hd⟩ := hcut
      have HX : Hid (Duo w0 wc p r d1 e ⟨(W, WB p.D gb q.T p1 (.slice A1 n1 c1) (.slice A8 (m1 + 1) c8)) :: q.L t1 ((f5, [.int .i64 ik, .int .i64 ib, .int .i64 ic, .int .i64 iv]) :: L), ⟨63, 4, .slice A1 n1 c1, n1, itsV its1⟩ :: ⟨47, 1, .slice A8 (m1 + 1) c8, (m1 + 1), (sl2).map slv⟩ :: G, (fun W => Bls W (sl2) (bl1 ++ [b])) :: F⟩) := Lib.hid hd
      clear hd HR
      obtain ⟨x, hx⟩ : ∃ x, cf.at_ p1.s + behind p1.o 0 + (m1 : Int) = x := ⟨_, rfl⟩
      have hat := at_range HC.out p1.s
      have hbh : 0 ≤ behind p1.o 0 ∧ behind p1.o 0 ≤ 100000 := by unfold behind; omega
      have hx1 : IntKind.i64.wrap (cf.at_ p1.s + behind p1.o 0 + ((m1 : Int) + 1)) = x + 1 := by rw [show cf.at_ p1.s + behind p1.o 0 + ((m1 : Int) + 1) = x + 1 from by omega]; exact IntWalk.i64_in _ (by omega)
      have hx2 : IntKind.i64.wrap x = x := IntWalk.i64_in _ (by omega)
      have had := HAD3.out
      (try dsimp only at had)
      rw [show Wr.first cf ⟨d1, t1, p1, its1, bl1⟩ + (bl1.length : Int) = x from by rw [← hx, ← HM1.out]; rfl] at had
      have HAD2 := Lib.hid had
      have HBL2 : Hid ((bl1 ++ [b]).length = m1 + 1) := Lib.hid (by rw [List.length_append, HM1.out]; rfl)
      clear had HAD3 hx hat hbh
      go_wp2_with fail
      have HY := Lib.hid HX.out.drew
      clear HX
      refine wp_region_held_drew (S := (fun w' => Kn.Own w' W (WB p.D gb q.T p1 (.slice A1 n1 c1) (.slice A8 (m1 + 1) c8)))) (by kernel_rfl) (HY.out.boxi 0 rfl) (fun hSw0 => ?_)
      generalize wc.drew = wz at *
      refine Kn.takeS 0 ⟨some 60, _, _, _, _, _⟩ ?_
      refine Kn.takeS 2 ⟨some 62, _, _, _, _, _⟩ ?_
      refine Kn.takeS 3 ⟨some 63, _, _, _, _, _⟩ ?_
      refine Kn.takeS 4 ⟨some 64, _, _, _, _, _⟩ ?_
      refine Kn.takeS 5 ⟨some 65, _, _, _, _, _⟩ (v := (.slice A8 (m1 + 1) c8)) (hy := fun w hSw => by
       have q0 := hSw.cellv 9
       go_simp) ?_
      refine Kn.takeS 6 ⟨some 66, _, _, _, _, _⟩ ?_
      refine Kn.takeR 1 ⟨some 61, _, _, _, _, _⟩ fun K hK => ?_
      go_simp
      refine (wr_first_any _ W p.D gb q.T p1 _ _ cf (HY.out.boxi 0 rfl) (HY.out.fact (f := (fun W => GeoAt W gb cf.b cf.s cf.l)) (List.mem_cons_of_mem _ HG.out)) HC.out (by omega) (at_range HC.out _)).mono ?_
      rintro en v2 ⟨rfl, hO⟩
      have HYc := Lib.hid (HY.out.keep0 hO)
      clear hO HY
      refine hK.out _ _ (HYc.out.boxi 0 rfl) (fun hSn => ?_)
      clear hK K hSw0
      have hSw0 := hSn
      clear hSn
      refine Kn.takeS 7 ⟨some 67, _, _, _, _, _⟩ ?_
      refine Kn.takeS 8 ⟨some 68, _, _, _, _, _⟩ ?_
      refine Kn.takeS 9 ⟨some 8, _, _, _, _, _⟩ ?_
      refine wpAnyH_done (by kernel_rfl) ?_ _
      clear hSw0
      go_wp2_with fail
      have HV := Lib.hid HYc.out.drew
      clear HYc
      refine wp_region_held_drew (S := (fun w' => Kn.Own w' f5 [.int .i64 ik, .int .i64 ib, .int .i64 ic, .int .i64 iv])) (by kernel_rfl) (HV.out.boxi 4 rfl) (fun hSw0 => ?_)
      generalize v2.drew = wq at *
      refine Kn.takeS 0 ⟨some 69, _, _, _, _, _⟩ ?_
      refine Kn.takeS 1 ⟨some 70, _, _, _, _, _⟩ ?_
      refine Kn.takeS 2 ⟨some 71, _, _, _, _, _⟩ ?_
      refine Kn.takeS 3 ⟨some 72, _, _, _, _, _⟩ ?_
      refine Kn.takeS 5 ⟨some 74, _, _, _, _, _⟩ (v := (.agg #[.int .i64 ik, .int .i64 ib, .int .i64 ic, .int .i64 iv])) (hy := fun w hSw => by
       obtain ⟨q0, q1, q2, q3⟩ := own4 hSw
       go_simp) ?_
      refine wpAnyH_ready (rs := [4, 6]) (by kernel_rfl) (by simp) ?_
      refine AllReadyH.cons (o := ⟨some 73, _, _, _, _, _⟩) rfl (fun K hK => ?_) ?_
      ·have q0 := (HV.out.boxi 0 rfl).cellv 8
       go_simp
       clear q0
       refine hK.out _ _ (HV.out.boxi 4 rfl) (fun hSn => ?_)
       clear hK K hSw0
       have hSw0 := hSn
       clear hSn
       refine Kn.takeR 6 ⟨some 75, _, _, _, _, _⟩ fun K hK => ?_
       go_simp
       have HVb := Lib.hid (HV.out.alloc (.cells #[.int .i64 ik, .int .i64 ib, .int .i64 ic, .int .i64 iv] 63))
       have hnw := news_new wq #[.int .i64 ik, .int .i64 ib, .int .i64 ic, .int .i64 iv] 63 (by simp [maxLen])
       have HNW := Lib.hid hnw
       clear hnw
       generalize hvz : wq.heap.size = vz at *
       generalize hvb : wq.alloc (.cells #[.int .i64 ik, .int .i64 ib, .int .i64 ic, .int .i64 iv] 63) = vb at *
       clear hvb hvz HV
       refine hK.out _ _ (HVb.out.boxi 4 rfl) (fun hSn => ?_)
       clear hK K hSw0
       have hSw0 := hSn
       clear hSn
       refine Kn.takeR 7 ⟨some 76, _, _, _, _, _⟩ fun K hK => ?_
       have hbw := HVb.out.only.size
       refine step_append_own rfl (.tmp 73) (.tmp 75) 53 rfl w0.heap.size 63 i0 _ 4 32 Tryz.underlying53 hi0 hz0 hz1 hz2 rfl (by decide) (.slice A1 n1 c1) n1 (itsV its1) rfl (HVb.out.gi 0 rfl) ⟨vz, 0, none⟩ 1 1 (itsV [⟨ik, ib, ic, iv⟩]) rfl rfl HNW.out (by intro u hu; simp [itsV, It.vals] at hu; rcases hu with rfl | rfl | rfl | rfl <;> rfl) (by unfold maxLen; omega) (by omega) hbw ?_
       intro v' vd hown hgrow hat
       rw [show itsV its1 ++ itsV [⟨ik, ib, ic, iv⟩] = itsV (its1 ++ [⟨ik, ib, ic, iv⟩]) from by simp [itsV]] at hown
       have hdd := HVb.out.gapp 0 rfl hown hgrow hat
       obtain ⟨A9, c9, rfl⟩ := hdd.gform 0 rfl
       simp only [List.set_cons_zero, List.set_cons_succ] at hdd
       have HVbd := Lib.hid hdd
       clear hdd hown hgrow hat hbw HVb HNW
       refine hK.out _ _ (HVbd.out.boxi 4 rfl) (fun hSn => ?_)
       clear hK K hSw0
       have hSw0 := hSn
       clear hSn
       refine Kn.takeS 8 ⟨some 77, _, _, _, _, _⟩ ?_
       refine Kn.takeS 9 ⟨some 78, _, _, _, _, _⟩ ?_
       refine Kn.takeR 10 ⟨none, _, _, _, _, _⟩ fun K hK => ?_
       have b1 := HVbd.out.boxi 0 rfl
       have y8 := b1.cellv 8
       have z8 := b1.frozen 8
       have l8 := b1.lt
       clear b1
       go_simp
       have HVbds := Lib.hid (HVbd.out.put 0 rfl 8 (.slice A9 (n1 + 1) c9))
       clear y8 z8 l8 HVbd
       refine hK.out _ _ (HVbds.out.boxi 4 rfl) (fun hSn => ?_)
       clear hK K hSw0
       have hSw0 := hSn
       clear hSn
       refine wpAnyH_done (by kernel_rfl) ?_ _
       clear hSw0
       go_wp2
       go_ret2
       rw [HAD2.out]
       exact ⟨rfl, A9, c9, A8, c8, sl2, by
        have hx := HVbds.out
        have e1 : (its1 ++ [(⟨ik, ib, ic, iv⟩ : It)]).length = n1 + 1 := by rw [List.length_append, HN1.out]; rfl
        have e2 : (bl1 ++ [b]).length = (m1 + 1) := HBL2.out
        dsimp only
        rw [e1, e2]
        exact drop5 hx⟩
      refine AllReadyH.cons (o := ⟨some 75, _, _, _, _, _⟩) rfl (fun K hK => ?_) ?_
      ·go_simp
       have HVb := Lib.hid (HV.out.alloc (.cells #[.int .i64 ik, .int .i64 ib, .int .i64 ic, .int .i64 iv] 63))
       have hnw := news_new wq #[.int .i64 ik, .int .i64 ib, .int .i64 ic, .int .i64 iv] 63 (by simp [maxLen])
       have HNW := Lib.hid hnw
       clear hnw
       generalize hvz : wq.heap.size = vz at *
       generalize hvb : wq.alloc (.cells #[.int .i64 ik, .int .i64 ib, .int .i64 ic, .int .i64 iv] 63) = vb at *
       clear hvb hvz HV
       refine hK.out _ _ (HVb.out.boxi 4 rfl) (fun hSn => ?_)
       clear hK K hSw0
       have hSw0 := hSn
       clear hSn
       refine Kn.takeR 4 ⟨some 73, _, _, _, _, _⟩ fun K hK => ?_
       have q0 := (HVb.out.boxi 0 rfl).cellv 8
       go_simp
       clear q0
       refine hK.out _ _ (HVb.out.boxi 4 rfl) (fun hSn => ?_)
       clear hK K hSw0
       have hSw0 := hSn
       clear hSn
       refine Kn.takeR 7 ⟨some 76, _, _, _, _, _⟩ fun K hK => ?_
       have hbw := HVb.out.only.size
       refine step_append_own rfl (.tmp 73) (.tmp 75) 53 rfl w0.heap.size 63 i0 _ 4 32 Tryz.underlying53 hi0 hz0 hz1 hz2 rfl (by decide) (.slice A1 n1 c1) n1 (itsV its1) rfl (HVb.out.gi 0 rfl) ⟨vz, 0, none⟩ 1 1 (itsV [⟨ik, ib, ic, iv⟩]) rfl rfl HNW.out (by intro u hu; simp [itsV, It.vals] at hu; rcases hu with rfl | rfl | rfl | rfl <;> rfl) (by unfold maxLen; omega) (by omega) hbw ?_
       intro v' vd hown hgrow hat
       rw [show itsV its1 ++ itsV [⟨ik, ib, ic, iv⟩] = itsV (its1 ++ [⟨ik, ib, ic, iv⟩]) from by simp [itsV]] at hown
       have hdd := HVb.out.gapp 0 rfl hown hgrow hat
       obtain ⟨A9, c9, rfl⟩ := hdd.gform 0 rfl
       simp only [List.set_cons_zero, List.set_cons_succ] at hdd
       have HVbd := Lib.hid hdd
       clear hdd hown hgrow hat hbw HVb HNW
       refine hK.out _ _ (HVbd.out.boxi 4 rfl) (fun hSn => ?_)
       clear hK K hSw0
       have hSw0 := hSn
       clear hSn
       refine Kn.takeS 8 ⟨some 77, _, _, _, _, _⟩ ?_
       refine Kn.takeS 9 ⟨some 78, _, _, _, _, _⟩ ?_
       refine Kn.takeR 10 ⟨none, _, _, _, _, _⟩ fun K hK => ?_
       have b1 := HVbd.out.boxi 0 rfl
       have y8 := b1.cellv 8
       have z8 := b1.frozen 8
       have l8 := b1.lt
       clear b1
       go_simp
       have HVbds := Lib.hid (HVbd.out.put 0 rfl 8 (.slice A9 (n1 + 1) c9))
       clear y8 z8 l8 HVbd
       refine hK.out _ _ (HVbds.out.boxi 4 rfl) (fun hSn => ?_)
       clear hK K hSw0
       have hSw0 := hSn
       clear hSn
       refine wpAnyH_done (by kernel_rfl) ?_ _
       clear hSw0
       go_wp2
       go_ret2
       rw [HAD2.out]
       exact ⟨rfl, A9, c9, A8, c8, sl2, by
        have hx := HVbds.out
        have e1 : (its1 ++ [(⟨ik, ib, ic, iv⟩ : It)]).length = n1 + 1 := by rw [List.length_append, HN1.out]; rfl
        have e2 : (bl1 ++ [b]).length = (m1 + 1) := HBL2.out
        dsimp only
        rw [e1, e2]
        exact drop5 hx⟩
      exact AllReadyH.nil
    ·have heb : (e1 != 0) = true := by rw [bne_iff_ne]; exact he
     have had := HAD2.out
     rw [if_pos he] at had
     have HAD3 := Lib.hid had
     clear had HAD2
     go_wp2
     go_ret2
     rw [HAD3.out]
     exact ⟨rfl, A1, c1, B1, k1, sl1, by dsimp only; rw [HN1.out, HM1.out]; exact drop5 HR.out⟩
  ·have had : Wr.add cf ⟨d, t, ps, its, bl⟩ ⟨ik, ib, ic, iv⟩ b spare = (⟨d, t, ps, its, bl⟩, 0, 1) := by
    unfold Wr.add
    rw [if_pos]
    rw [HLD.out, HNB.out]
    simp only [Bool.and_eq_false_iff, decide_eq_false_iff_not]
    by_cases hm : It.may ⟨ik, ib, ic, iv⟩ = true
    ·by_cases h7 : ik = 7
     ·exact .inl (.inr (fun h => h h7))
     ·exact .inr (fun h => hok ⟨⟨hm, h7⟩, by simpa using h⟩)
    ·exact .inl (.inl (by simpa using hm))
   have HAD2 := Lib.hid had
   clear had
   by_cases hm : It.may ⟨ik, ib, ic, iv⟩ = true
   ·rw [hm]
    by_cases h7 : ik = 7
    ·subst h7
     clear hok
     go_wp2
     go_ret2
     rw [HAD2.out]
     exact ⟨rfl, HFIN.out _ HD3.out⟩
    ·have hnn : ¬ n = 64 := fun h => hok ⟨⟨hm, h7⟩, h⟩
     have hn1 : ((n : Int) != 64) = true := by simp; omega
     have h71 : (ik == 7) = false := by simpa using h7
     clear hok h7 hnn
     go_wp2
     go_ret2
     rw [HAD2.out]
     exact ⟨rfl, HFIN.out _ HD3.out⟩
   ·rw [Bool.not_eq_true] at hm
    rw [hm]
    clear hok
    go_wp2
    go_ret2
    rw [HAD2.out]
    exact ⟨rfl, HFIN.out _ HD3.out⟩
 | false =>
  have hld2 : It.loaded ⟨ik, ib, ic, iv⟩ = false := hld
  have HLD := Lib.hid hld2
  clear hld hld2
  go_enter Tryz.func42, Tryz.ntmps42
  go_wp2_with fail
  generalize hz : w.alloc (.cells #[.int .i64 ik, .int .i64 ib, .int .i64 ic, .int .i64 iv] 63) = w1 at *
  generalize w.heap.size = f5 at *
  clear hz
  have g5 := own4 (HD.out.boxi 4 rfl)
  obtain ⟨y0, y1, y2, y3⟩ := g5
  refine (item_loaded_any ik ib ic iv _).mono ?_
  rintro en w2 ⟨rfl, hO⟩
  rw [HLD.out]
  have HD2 := Lib.hid (HD.out.keep0 hO)
  obtain ⟨y0, y1, y2, y3⟩ := own4 (HD2.out.boxi 4 rfl)
  clear hO HD
  go_wp2_with fail
  refine (item_may_any ik ib ic iv _).mono ?_
  rintro en w3 ⟨rfl, hO⟩
  have HD3 := Lib.hid (HD2.out.keep0 hO)
  obtain ⟨y0, y1, y2, y3⟩ := own4 (HD3.out.boxi 4 rfl)
  clear hO HD2
  by_cases hok : (It.may ⟨ik, ib, ic, iv⟩ = true ∧ ik ≠ 7) ∧ n = 0
  ·obtain ⟨⟨hm, h7⟩, hns⟩ := hok
   have hnok : (It.may ⟨ik, ib, ic, iv⟩ && decide (ik ≠ 7) && decide (b.length = (if It.loaded ⟨ik, ib, ic, iv⟩ = true then 64 else 0))) = true := by rw [HLD.out, hm, decide_eq_true h7, HNB.out, hns]; rfl
   have h71 : (ik == 7) = false := by simpa using h7
   have HNO := Lib.hid hnok
   subst hns
   rw [hm]
   clear hm h7 hnok
   have c0 := (HD3.out.boxi 0 rfl).cellv 0
   go_wp2_with fail
   refine (duo_off HD3.out).mono ?_
   rintro en w4 ⟨rfl, rfl⟩
   by_cases hof : d.off = true
   ·have had : Wr.add cf ⟨d, t, ps, its, bl⟩ ⟨ik, ib, ic, iv⟩ b spare = (⟨d, t, ps, its, bl⟩, 0, 3) := by
     unfold Wr.add
     rw [if_neg (by rw [HNO.out]; decide), if_pos hof]
    have HAD2 := Lib.hid had
    rw [hof]
    clear had hof c0
    go_wp2
    go_ret2
    rw [HAD2.out]
    exact ⟨rfl, HFIN.out _ HD3.out⟩
   ·have hof2 : d.off = false := by simpa using hof
    obtain ⟨z1, e1, hrm⟩ : ∃ z1 e1, Wr.room cf ⟨d, t, ps, its, bl⟩ 0 spare = (z1, e1) := ⟨_, _, rfl⟩
    have had : Wr.add cf ⟨d, t, ps, its, bl⟩ ⟨ik, ib, ic, iv⟩ b spare = if e1 ≠ 0 then (z1, 0, e1) else ({ z1 with its := z1.its ++ [⟨ik, ib, ic, iv⟩] }, 0, 0) := by
     unfold Wr.add
     rw [if_neg (by rw [HNO.out]; decide), if_neg hof, HLD.out]
     rw [show (if false = true then 1 else 0 : Nat) = 0 from rfl, hrm]
     dsimp only
     split
     ·rfl
     ·rw [if_neg (by decide)]
    obtain ⟨rs1, rs2, rs3, rs4⟩ := room_s cf ⟨d, t, ps, its, bl⟩ 0 spare ho.1
    rw [hrm] at rs1 rs2 rs3 rs4
    dsimp only at rs1 rs2 rs3 rs4
    have HAD2 := Lib.hid had
    have HRM := Lib.hid hrm
    rw [hof2]
    clear had hof hof2 hrm c0
    go_wp2_with fail
    refine (wr_room_any w0 _ p r e W gb q ⟨d, t, ps, its, bl⟩ 0 spare cf ((f5, [.int .i64 ik, .int .i64 ib, .int .i64 ic, .int .i64 iv]) :: L) G F (HWI.out _ HD3.out) HG.out HC.out HT.out hqn hs ho hl hh hi hb (by decide)).mono ?_
    rw [HRM.out]
    rintro en w7 ⟨rfl, hd⟩
    obtain ⟨d1, t1, p1, its1, bl1⟩ := z1
    obtain ⟨A1, c1, B1, k1, sl1, hd⟩ := hd
    dsimp only at hd rs1 rs2 rs3 rs4
    obtain ⟨n1, hn1⟩ : ∃ n, its1.length = n := ⟨_, rfl⟩
    obtain ⟨m1, hm1⟩ : ∃ m, bl1.length = m := ⟨_, rfl⟩
    rw [hn1, hm1] at hd
    rw [hn1] at rs1
    rw [hm1] at rs2
    have hm1b : m1 ≤ 20 := by omega
    have hn1b : n1 ≤ 20 := by omega
    have HR : Hid (Duo w0 w7 p r d1 e ⟨(W, WB p.D gb q.T p1 (.slice A1 n1 c1) (.slice B1 m1 k1)) :: q.L t1 ((f5, [.int .i64 ik, .int .i64 ib, .int .i64 ic, .int .i64 iv]) :: L), ⟨63, 4, .slice A1 n1 c1, n1, itsV its1⟩ :: ⟨47, 1, .slice B1 m1 k1, m1, (sl1).map slv⟩ :: G, (fun W => Bls W (sl1) (bl1)) :: F⟩) := Lib.hid hd
    have HN1 := Lib.hid hn1
    have HM1 := Lib.hid hm1
    clear hd HD3 hn1 hm1
    by_cases he : e1 = 0
    ·subst he
     have had := HAD2.out
     rw [if_neg (by decide)] at had
     (try dsimp only at had)
     have HAD3 := Lib.hid had
     clear had HAD2
     have HAD2 := HAD3
     clear HAD3
     go_wp2_with fail
     have HV := Lib.hid HR.out.drew
     clear HR
     refine wp_region_held_drew (S := (fun w' => Kn.Own w' f5 [.int .i64 ik, .int .i64 ib, .int .i64 ic, .int .i64 iv])) (by kernel_rfl) (HV.out.boxi 4 rfl) (fun hSw0 => ?_)
     generalize w7.drew = wq at *
     refine Kn.takeS 0 ⟨some 69, _, _, _, _, _⟩ ?_
     refine Kn.takeS 1 ⟨some 70, _, _, _, _, _⟩ ?_
     refine Kn.takeS 2 ⟨some 71, _, _, _, _, _⟩ ?_
     refine Kn.takeS 3 ⟨some 72, _, _, _, _, _⟩ ?_
     refine Kn.takeS 5 ⟨some 74, _, _, _, _, _⟩ (v := (.agg #[.int .i64 ik, .int .i64 ib, .int .i64 ic, .int .i64 iv])) (hy := fun w hSw => by
      obtain ⟨q0, q1, q2, q3⟩ := own4 hSw
      go_simp) ?_
     refine wpAnyH_ready (rs := [4, 6]) (by kernel_rfl) (by simp) ?_
     refine AllReadyH.cons (o := ⟨some 73, _, _, _, _, _⟩) rfl (fun K hK => ?_) ?_
     ·have q0 := (HV.out.boxi 0 rfl).cellv 8
      go_simp
      clear q0
      refine hK.out _ _ (HV.out.boxi 4 rfl) (fun hSn => ?_)
      clear hK K hSw0
      have hSw0 := hSn
      clear hSn
      refine Kn.takeR 6 ⟨some 75, _, _, _, _, _⟩ fun K hK => ?_
      go_simp
      have HVb := Lib.hid (HV.out.alloc (.cells #[.int .i64 ik, .int .i64 ib, .int .i64 ic, .int .i64 iv] 63))
      have hnw := news_new wq #[.int .i64 ik, .int .i64 ib, .int .i64 ic, .int .i64 iv] 63 (by simp [maxLen])
      have HNW := Lib.hid hnw
      clear hnw
      generalize hvz : wq.heap.size = vz at *
      generalize hvb : wq.alloc (.cells #[.int .i64 ik, .int .i64 ib, .int .i64 ic, .int .i64 iv] 63) = vb at *
      clear hvb hvz HV
      refine hK.out _ _ (HVb.out.boxi 4 rfl) (fun hSn => ?_)
      clear hK K hSw0
      have hSw0 := hSn
      clear hSn
      refine Kn.takeR 7 ⟨some 76, _, _, _, _, _⟩ fun K hK => ?_
      have hbw := HVb.out.only.size
      refine step_append_own rfl (.tmp 73) (.tmp 75) 53 rfl w0.heap.size 63 i0 _ 4 32 Tryz.underlying53 hi0 hz0 hz1 hz2 rfl (by decide) (.slice A1 n1 c1) n1 (itsV its1) rfl (HVb.out.gi 0 rfl) ⟨vz, 0, none⟩ 1 1 (itsV [⟨ik, ib, ic, iv⟩]) rfl rfl HNW.out (by intro u hu; simp [itsV, It.vals] at hu; rcases hu with rfl | rfl | rfl | rfl <;> rfl) (by unfold maxLen; omega) (by omega) hbw ?_
      intro v' vd hown hgrow hat
      rw [show itsV its1 ++ itsV [⟨ik, ib, ic, iv⟩] = itsV (its1 ++ [⟨ik, ib, ic, iv⟩]) from by simp [itsV]] at hown
      have hdd := HVb.out.gapp 0 rfl hown hgrow hat
      obtain ⟨A9, c9, rfl⟩ := hdd.gform 0 rfl
      simp only [List.set_cons_zero, List.set_cons_succ] at hdd
      have HVbd := Lib.hid hdd
      clear hdd hown hgrow hat hbw HVb HNW
      refine hK.out _ _ (HVbd.out.boxi 4 rfl) (fun hSn => ?_)
      clear hK K hSw0
      have hSw0 := hSn
      clear hSn
      refine Kn.takeS 8 ⟨some 77, _, _, _, _, _⟩ ?_
      refine Kn.takeS 9 ⟨some 78, _, _, _, _, _⟩ ?_
      refine Kn.takeR 10 ⟨none, _, _, _, _, _⟩ fun K hK => ?_
      have b1 := HVbd.out.boxi 0 rfl
      have y8 := b1.cellv 8
      have z8 := b1.frozen 8
      have l8 := b1.lt
      clear b1
      go_simp
      have HVbds := Lib.hid (HVbd.out.put 0 rfl 8 (.slice A9 (n1 + 1) c9))
      clear y8 z8 l8 HVbd
      refine hK.out _ _ (HVbds.out.boxi 4 rfl) (fun hSn => ?_)
      clear hK K hSw0
      have hSw0 := hSn
      clear hSn
      refine wpAnyH_done (by kernel_rfl) ?_ _
      clear hSw0
      go_wp2
      go_ret2
      rw [HAD2.out]
      exact ⟨rfl, A9, c9, B1, k1, sl1, by
       have hx := HVbds.out
       have e1 : (its1 ++ [(⟨ik, ib, ic, iv⟩ : It)]).length = n1 + 1 := by rw [List.length_append, HN1.out]; rfl
       have e2 : (bl1).length = m1 := HM1.out
       dsimp only
       rw [e1, e2]
       exact drop5 hx⟩
     refine AllReadyH.cons (o := ⟨some 75, _, _, _, _, _⟩) rfl (fun K hK => ?_) ?_
     ·go_simp
      have HVb := Lib.hid (HV.out.alloc (.cells #[.int .i64 ik, .int .i64 ib, .int .i64 ic, .int .i64 iv] 63))
      have hnw := news_new wq #[.int .i64 ik, .int .i64 ib, .int .i64 ic, .int .i64 iv] 63 (by simp [maxLen])
      have HNW := Lib.hid hnw
      clear hnw
      generalize hvz : wq.heap.size = vz at *
      generalize hvb : wq.alloc (.cells #[.int .i64 ik, .int .i64 ib, .int .i64 ic, .int .i64 iv] 63) = vb at *
      clear hvb hvz HV
      refine hK.out _ _ (HVb.out.boxi 4 rfl) (fun hSn => ?_)
      clear hK K hSw0
      have hSw0 := hSn
      clear hSn
      refine Kn.takeR 4 ⟨some 73, _, _, _, _, _⟩ fun K hK => ?_
      have q0 := (HVb.out.boxi 0 rfl).cellv 8
      go_simp
      clear q0
      refine hK.out _ _ (HVb.out.boxi 4 rfl) (fun hSn => ?_)
      clear hK K hSw0
      have hSw0 := hSn
      clear hSn
      refine Kn.takeR 7 ⟨some 76, _, _, _, _, _⟩ fun K hK => ?_
      have hbw := HVb.out.only.size
      refine step_append_own rfl (.tmp 73) (.tmp 75) 53 rfl w0.heap.size 63 i0 _ 4 32 Tryz.underlying53 hi0 hz0 hz1 hz2 rfl (by decide) (.slice A1 n1 c1) n1 (itsV its1) rfl (HVb.out.gi 0 rfl) ⟨vz, 0, none⟩ 1 1 (itsV [⟨ik, ib, ic, iv⟩]) rfl rfl HNW.out (by intro u hu; simp [itsV, It.vals] at hu; rcases hu with rfl | rfl | rfl | rfl <;> rfl) (by unfold maxLen; omega) (by omega) hbw ?_
      intro v' vd hown hgrow hat
      rw [show itsV its1 ++ itsV [⟨ik, ib, ic, iv⟩] = itsV (its1 ++ [⟨ik, ib, ic, iv⟩]) from by simp [itsV]] at hown
      have hdd := HVb.out.gapp 0 rfl hown hgrow hat
      obtain ⟨A9, c9, rfl⟩ := hdd.gform 0 rfl
      simp only [List.set_cons_zero, List.set_cons_succ] at hdd
      have HVbd := Lib.hid hdd
      clear hdd hown hgrow hat hbw HVb HNW
      refine hK.out _ _ (HVbd.out.boxi 4 rfl) (fun hSn => ?_)
      clear hK K hSw0
      have hSw0 := hSn
      clear hSn
      refine Kn.takeS 8 ⟨some 77, _, _, _, _, _⟩ ?_
      refine Kn.takeS 9 ⟨some 78, _, _, _, _, _⟩ ?_
      refine Kn.takeR 10 ⟨none, _, _, _, _, _⟩ fun K hK => ?_
      have b1 := HVbd.out.boxi 0 rfl
      have y8 := b1.cellv 8
      have z8 := b1.frozen 8
      have l8 := b1.lt
      clear b1
      go_simp
      have HVbds := Lib.hid (HVbd.out.put 0 rfl 8 (.slice A9 (n1 + 1) c9))
      clear y8 z8 l8 HVbd
      refine hK.out _ _ (HVbds.out.boxi 4 rfl) (fun hSn => ?_)
      clear hK K hSw0
      have hSw0 := hSn
      clear hSn
      refine wpAnyH_done (by kernel_rfl) ?_ _
      clear hSw0
      go_wp2
      go_ret2
      rw [HAD2.out]
      exact ⟨rfl, A9, c9, B1, k1, sl1, by
       have hx := HVbds.out
       have e1 : (its1 ++ [(⟨ik, ib, ic, iv⟩ : It)]).length = n1 + 1 := by rw [List.length_append, HN1.out]; rfl
       have e2 : (bl1).length = m1 := HM1.out
       dsimp only
       rw [e1, e2]
       exact drop5 hx⟩
     exact AllReadyH.nil
    ·have heb : (e1 != 0) = true := by rw [bne_iff_ne]; exact he
     have had := HAD2.out
     rw [if_pos he] at had
     have HAD3 := Lib.hid had
     clear had HAD2
     go_wp2
     go_ret2
     rw [HAD3.out]
     exact ⟨rfl, A1, c1, B1, k1, sl1, by dsimp only; rw [HN1.out, HM1.out]; exact drop5 HR.out⟩
  ·have had : Wr.add cf ⟨d, t, ps, its, bl⟩ ⟨ik, ib, ic, iv⟩ b spare = (⟨d, t, ps, its, bl⟩, 0, 1) := by
    unfold Wr.add
    rw [if_pos]
    rw [HLD.out, HNB.out]
    simp only [Bool.and_eq_false_iff, decide_eq_false_iff_not]
    by_cases hm : It.may ⟨ik, ib, ic, iv⟩ = true
    ·by_cases h7 : ik = 7
     ·exact .inl (.inr (fun h => h h7))
     ·exact .inr (fun h => hok ⟨⟨hm, h7⟩, by simpa using h⟩)
    ·exact .inl (.inl (by simpa using hm))
   have HAD2 := Lib.hid had
   clear had
   by_cases hm : It.may ⟨ik, ib, ic, iv⟩ = true
   ·rw [hm]
    by_cases h7 : ik = 7
    ·subst h7
     clear hok
     go_wp2
     go_ret2
     rw [HAD2.out]
     exact ⟨rfl, HFIN.out _ HD3.out⟩
    ·have hnn : ¬ n = 0 := fun h => hok ⟨⟨hm, h7⟩, h⟩
     have hn1 : ((n : Int) != 0) = true := by simp; omega
     have h71 : (ik == 7) = false := by simpa using h7
     clear hok h7 hnn
     go_wp2
     go_ret2
     rw [HAD2.out]
     exact ⟨rfl, HFIN.out _ HD3.out⟩
   ·rw [Bool.not_eq_true] at hm
    rw [hm]
    clear hok
    go_wp2
    go_ret2
    rw [HAD2.out]
    exact ⟨rfl, HFIN.out _ HD3.out⟩
end Go.Proofs.YtgcfdjcpcclcjaaGreat
namespace Go.Kn
open Go Go.RowKit
/-- a sector's bytes, or those that wait for it -/
def Wr.rd (c : Cf) (z : Wr) (a : Int) : List UInt8 × Int :=
 if 0 ≤ a - Wr.first c z ∧ a - Wr.first c z < (z.bl.length : Int) then (z.bl.getD (a - Wr.first c z).toNat [], 0) else (z.d.read a, z.d.err a)
end Go.Kn
namespace Go.Proofs.YtgcfdjcpcclcjaaGreat
open Go Go.RowKit Go.Kn
theorem RdSays.later {w0 w : World} {b : List UInt8} {er : Int} {en : Ending} {w' : World} (h : RdSays w b er en w') (hO : Only [] w0 w) : RdSays w0 b er en w' := by
 obtain ⟨A, n, c, he, hf, ho⟩ := h
 exact ⟨A, n, c, he, fun W hW => hf W fun k o hk => hW k o (fun hlt => hk (Nat.lt_of_lt_of_le hlt hO.size)), hO.trans' ho⟩
set_option maxRecDepth 100000 in
set_option maxHeartbeats 4000000 in
theorem wr_read_any (w0 w : World) (p : PD) (r : RD) (e : Dk) (W gb : Nat) (q : TD) (z : Wr) (a : Int) (cf : Cf) (L : List (Nat × List Value)) (G : List Gs) (F : List (World → Prop)) (h : WrIn w0 w p r e W gb q z L G F) (hg : (fun W => GeoAt W gb cf.b cf.s cf.l) ∈ F) (hc : cf.Ok) (ho : 0 ≤ z.p.o ∧ z.p.o ≤ 64) (hb : z.bl.length ≤ 20) (hf : ∀ b ∈ z.bl, b.length = 64) :
  Calls Tryz.prog 46 #[.pointer (some ⟨W, 0, none⟩), .int .i64 a] w (RdSays w (z.rd cf a).1 (z.rd cf a).2) := by
 obtain ⟨d, t, ps, its, bl⟩ := z
 obtain ⟨A, c, B, k, sl, h⟩ := h
 dsimp only at h ho hb hf
 obtain ⟨m, hm⟩ : ∃ m, bl.length = m := ⟨_, rfl⟩
 rw [hm] at h
 obtain ⟨x, hx⟩ : ∃ x, cf.at_ ps.s + behind ps.o 0 = x := ⟨_, rfl⟩
 have hat := at_range hc ps.s
 have hbh : 0 ≤ behind ps.o 0 ∧ behind ps.o 0 ≤ 100 := by unfold behind; omega
 have hxb : -1 ≤ x ∧ x ≤ 100200 := by omega
 have hfx : Wr.first cf ⟨d, t, ps, its, bl⟩ = x := hx
 have hhit : ∀ j : Nat, j < m → a = x + (j : Int) → Wr.rd cf ⟨d, t, ps, its, bl⟩ a = (bl.getD j [], 0) := by
  intro j hj ha
  unfold Wr.rd
  rw [hfx]
  dsimp only
  rw [if_pos (by omega), show (a - x).toNat = j from by omega]
 have hmiss : (∀ j : Nat, j < m → a ≠ x + (j : Int)) → Wr.rd cf ⟨d, t, ps, its, bl⟩ a = (d.read a, d.err a) := by
  intro hj
  unfold Wr.rd
  rw [hfx]
  dsimp only
  rw [if_neg]
  intro hh
  exact hj (a - x).toNat (by omega) (by omega)
 have HD := Lib.hid h
 have HG := Lib.hid hg
 have HC := Lib.hid hc
 have HM := Lib.hid hm
 have HX := Lib.hid hx
 have HHIT := Lib.hid hhit
 have HMISS := Lib.hid hmiss
 have HF := Lib.hid hf
 have c9 := (HD.out.boxi 0 rfl).cellv 9
 have hm20 : m ≤ 20 := by omega
 clear h hg hc hm hhit hmiss hfx hat hbh hf hx
 go_enter Tryz.func46, Tryz.ntmps46
 go_wp2_with fail
 clear c9
 go_loopg [15] m (fun r s15 wr => ∃ j : Nat, j + r = m ∧ s15 = .int .i64 (j : Int) ∧ Only [] w wr ∧ ∀ i : Nat, i < j → a ≠ x + (i : Int))
 case atStart => exact ⟨0, by omega, rfl, Only.refl _ _, fun i hi => by omega⟩
 obtain ⟨j, hj, rfl, hO, hne⟩ := hrel
 have HO := Lib.hid hO
 have HNE := Lib.hid hne
 have HDr := Lib.hid (HD.out.keep0 hO)
 clear hO hne
 by_cases hlt : j < m
 ·have hbls : Bls wr sl bl := HDr.out.fact (f := fun W => Bls W sl bl) List.mem_cons_self
  have hjl : j < bl.length := by rw [HM.out]; exact hlt
  have hsl : j < sl.length := by rw [hbls.1]; exact hjl
  obtain ⟨g, o, hB, hcell⟩ := (HDr.out.grow 1 rfl).at_ (by omega)
  have cj := hcell j (by rw [List.length_map]; exact hsl)
  rw [List.getElem_map] at cj
  have hby := hbls.2 j hsl hjl
  obtain ⟨⟨s1, s2, s3⟩, hs⟩ : ∃ s, sl[j] = s := ⟨_, rfl⟩
  rw [hs] at cj hby
  obtain ⟨bj, hbj⟩ : ∃ b, bl[j] = b := ⟨_, rfl⟩
  rw [hbj] at hby
  have hb64 : bj.length = 64 := by rw [← hbj]; exact HF.out _ (List.getElem_mem hjl)
  have hgd : bl.getD j [] = bj := by rw [List.getD_eq_getElem?_getD, List.getElem?_eq_getElem hjl, hbj]; rfl
  replace cj : wr.cell? ⟨g, o + j, none⟩ = some (.slice s1 s2 s3) := cj
  have hs2 : s2 = 64 := by have h1 := hby.len; rw [bvs_length] at h1; exact h1.symm.trans hb64
  subst hs2
  dsimp only at hby
  have HBY := Lib.hid hby
  have HGD := Lib.hid hgd
  have H64 := Lib.hid hb64
  have hlt2 : (j : Int) < (m : Int) := by omega
  subst hB
  clear hcell hbls hs hbj hby hb64 hgd
  go_wp2_with fail
  refine (wr_first_any _ W p.D gb q.T ps _ _ cf (HDr.out.boxi 0 rfl) (HDr.out.fact (f := (fun W => GeoAt W gb cf.b cf.s cf.l)) (List.mem_cons_of_mem _ HG.out)) HC.out (by omega) (at_range HC.out _)).mono ?_
  rintro en w2 ⟨rfl, hO2⟩
  rw [HX.out]
  have HO2 := Lib.hid (HO.out.trans' hO2)
  have HB2 := Lib.hid (HBY.out.keep0 hO2)
  clear hO2 cj HBY HDr
  have hwx : IntKind.i64.wrap (x + (j : Int)) = x + (j : Int) := IntWalk.i64_in _ (by omega)
  by_cases hax : a = x + (j : Int)
  ·have hrd := HHIT.out j hlt hax
   have hbq : (a == x + (j : Int)) = true := by simpa using hax
   have HRD := Lib.hid hrd
   clear hrd hax
   go_wp2_with fail
   refine (clone_any s1 64 s3 bj _ HB2.out (by omega)).mono ?_
   rintro en w3 ⟨A7, c7, rfl, hcc, hcm, hp, hO3⟩
   have hfc : Fc w3 (fun k => k < w2.heap.size) (fun W => Bys W A7 bj.length c7 bj) := MadeBys.fc hcc hcm hp
   have HFC := Lib.hid (RdSays.later (w0 := w) (b := bj) (er := 0) (en := .returned (.tuple #[.slice A7 bj.length c7, .int .i64 0])) ⟨A7, bj.length, c7, rfl, hfc, hO3⟩ HO2.out)
   clear hcc hcm hp hfc hO3
   go_wp2
   go_ret2
   rw [HRD.out, HGD.out]
   exact HFC.out
  ·have hbq : (a == x + (j : Int)) = false := by simpa using hax
   have HNE2 : Hid (∀ i : Nat, i < j + 1 → a ≠ x + (i : Int)) := Lib.hid (fun i hi => by
    by_cases h : i = j
    ·subst h; exact hax
    ·exact HNE.out i (by omega))
   clear hax
   go_wp2
   go_roundg (gk - 1)
   case measure => omega
   case rel => exact ⟨j + 1, by omega, by go_num, HO2.out, HNE2.out⟩
 ·obtain rfl : j = m := by omega
  have hrd := HMISS.out HNE.out
  have HRD := Lib.hid hrd
  have c0 := (HDr.out.boxi 0 rfl).cellv 0
  clear hrd
  go_wp2_with fail
  obtain ⟨c1, hF, hP, back⟩ := HDr.out.ofP
  refine (dk_read_any w0 _ p d c1 a hP).mono ?_
  rintro en w3 hrs
  obtain ⟨A7, n7, c7, rfl, hfc, hO3⟩ := hrs
  have HFC := Lib.hid (RdSays.later (w0 := w) (b := d.read a) (er := d.err a) (en := .returned (.tuple #[.slice A7 n7 c7, .int .i64 (d.err a)])) ⟨A7, n7, c7, rfl, hfc, hO3⟩ HO.out)
  clear hF hP back hfc hO3 c0
  go_wp2
  go_ret2
  rw [HRD.out]
  exact HFC.out
def NewSays (w0 : World) (p : PD) (r : RD) (d e : Dk) (gb : Nat) (q : TD) (t : Tb) (ps : Ps) (L : List (Nat × List Value)) (G : List Gs) (F : List (World → Prop)) : Bool → Ending → World → Prop
 | true, en, w' => ∃ W, en = .returned (.pointer (some ⟨W, 0, none⟩)) ∧ WrIn w0 w' p r e W gb q ⟨d, t, ps, [], []⟩ L G F
 | false, en, w' => en = .returned (.pointer none) ∧ Duo w0 w' p r d e ⟨q.L t L, G, F⟩
set_option maxRecDepth 100000 in
set_option maxHeartbeats 4000000 in
theorem wr_new_any (w0 w : World) (p : PD) (r : RD) (d e : Dk) (gb : Nat) (q : TD) (t : Tb) (ps : Ps) (cf : Cf) (L : List (Nat × List Value)) (G : List Gs) (F : List (World → Prop)) (h : Duo w0 w p r d e ⟨q.L t L, G, F⟩) (hg : (fun W => GeoAt W gb cf.b cf.s cf.l) ∈ F) (hc : cf.Ok) :
  Calls Tryz.prog 107 #[.pointer (some ⟨p.D, 0, none⟩), .pointer (some ⟨gb, 0, none⟩), .pointer (some ⟨q.T, 0, none⟩), .agg #[.int .i64 ps.s, .int .i64 ps.o, .int .i64 ps.l, .int .i64 ps.p, .int .i64 ps.m]] w (NewSays w0 p r d e gb q t ps L G F (posMay cf.s cf.l ps.s ps.o ps.l ps.p ps.m)) := by
 have HD := Lib.hid (h.newB #[.int .i64 ps.s, .int .i64 ps.o, .int .i64 ps.l, .int .i64 ps.p, .int .i64 ps.m] 32 rfl)
 have HG := Lib.hid hg
 have HC := Lib.hid hc
 clear h hg hc
 go_enter Tryz.func107, Tryz.ntmps107
 go_wp2_with fail
 generalize hz : w.alloc (.cells #[.int .i64 ps.s, .int .i64 ps.o, .int .i64 ps.l, .int .i64 ps.p, .int .i64 ps.m] 32) = w1 at *
 generalize w.heap.size = f7 at *
 clear hz
 refine (geom_may_any gb cf.b cf.s cf.l ps.s ps.o ps.l ps.p ps.m _ (HD.out.fact HG.out) HC.out).mono ?_
 rintro en w2 ⟨rfl, hO⟩
 have HD2 := Lib.hid (HD.out.keep0 hO)
 obtain ⟨y0, y1, y2, y3, y4⟩ := own5 (HD2.out.boxi 0 rfl)
 clear hO HD
 obtain ⟨mb, hmb⟩ : ∃ x, posMay cf.s cf.l ps.s ps.o ps.l ps.p ps.m = x := ⟨_, rfl⟩
 have HMB := Lib.hid hmb
 rw [hmb]
 clear hmb
 cases mb with
 | true =>
  have HE := Lib.hid (HD2.out.ldrop.newB #[.pointer (some ⟨p.D, 0, none⟩), .pointer (some ⟨gb, 0, none⟩), .pointer (some ⟨q.T, 0, none⟩), .int .i64 ps.s, .int .i64 ps.o, .int .i64 ps.l, .int .i64 ps.p, .int .i64 ps.m, .slice none 0 0, .slice none 0 0] 192 rfl)
  go_wp2
  go_ret
  rw [HMB.out]
  refine ⟨_, rfl, none, 0, none, 0, [], ?_⟩
  exact ((HE.out.gnew 47 1).gnew 63 4).impF (F' := (fun W => Bls W [] []) :: F) (fun g hg V hV => by
   rcases List.mem_cons.1 hg with rfl | hg
   ·exact Bls.nil
   ·exact hV g hg)
 | false =>
  go_wp2
  go_ret
  rw [HMB.out]
  exact ⟨rfl, HD2.out.ldrop⟩
end Go.Proofs.YtgcfdjcpcclcjaaGreat
namespace Go.Proofs.YtgcfdjcpcclcjaaGreat
open Go Go.RowKit Go.Kn
theorem infoUse15 : (Tryz.prog.info? 208).map (fun i => (i.zero, i.size, i.bytes)) = some (some (.agg #[.int .i64 0, .int .i64 0]), 2, 16) := by kernel_rfl
theorem infoUse2 : (Tryz.prog.info? 208).map (·.size) = some 2 := by kernel_rfl
theorem usV_zero (n : Nat) : usV (List.replicate n ⟨0, 0⟩) = List.replicate (n * 2) (.int .i64 0) := by
 unfold usV
 induction n with
 | zero => rfl
 | succ n ih =>
  rw [List.replicate_succ, List.flatMap_cons, ih, show (n + 1) * 2 = n * 2 + 1 + 1 from by omega, List.replicate_succ, List.replicate_succ]
  rfl
theorem make_uses (n : Nat) (hn : n ≤ 1000) (w : World) : (Instr.makeSlice 200 (.int .i64 n) (.int .i64 n)).run Tryz.prog w = .ok (.slice (some ⟨w.heap.size, 0, none⟩) n n) (w.alloc (.cells (usV (List.replicate n ⟨0, 0⟩)).toArray 208)) := by
 obtain ⟨i0, hi, hz0, hz1, hz2⟩ := info_parts infoUse15
 have h := run_make (P := Tryz.prog) w 200 208 i0 _ Tryz.underlying200 hi hz0 .i64 .i64 n n (by omega) (by omega) (by rw [hz2]; omega) (by omega)
 rw [h, hz1, usV_zero]
 show Result.ok _ (w.alloc (.cells (madeCells (List.replicate 2 (Value.int .i64 0)).toArray _) _)) = _
 rw [madeCells_rep _ _ _ (by omega)]
 rfl
theorem make_ints (n : Nat) (hn : n ≤ 1000) (w : World) : (Instr.makeSlice 34 (.int .i64 n) (.int .i64 n)).run Tryz.prog w = .ok (.slice (some ⟨w.heap.size, 0, none⟩) n n) (w.alloc (.cells (ivs (List.replicate n 0)).toArray 3)) := by
 obtain ⟨i0, hi, hz0, hz1, hz2⟩ := info_parts Tryz.infoInt
 have h := run_make (P := Tryz.prog) w 34 3 i0 _ Tryz.underlying34 hi hz0 .i64 .i64 n n (by omega) (by omega) (by rw [hz2]; omega) (by omega)
 rw [h, hz1, Nat.mul_one, show ivs (List.replicate n 0) = List.replicate n (Value.int .i64 0) from by rw [ivs, List.map_replicate]]
 show Result.ok _ (w.alloc (.cells (madeCells (List.replicate 1 (Value.int .i64 0)).toArray _) _)) = _
 rw [madeCells_rep _ _ _ (by omega)]
 rfl
theorem run_copy_nil {P : Program} (w : World) (dT sT ty elem : TypeId) (d : Option Addr) (dLen dCap s : Nat) (hu : P.underlying dT = some (.slice elem)) (hs : (P.info? elem).map (·.size) = some s) :
  (Builtin.copy_ #[dT, sT] ty #[.slice d dLen dCap, .slice none 0 0]).run P w = .ok (goInt 0) w := by
 cases hq : P.info? elem with
 | none => simp [hq] at hs
 | some i =>
  have hl : ∀ (x : Addr), (loadCells x 0).run P w = .ok #[] w := fun x => by simpa using run_loadCells_list (P := P) w x [] (by simp)
  cases d <;> simp [Builtin.copy_, run_underlying hu, Builtin.lenOf, Builtin.firstCells, sizeOf, typeInfo, hq, storeCells, hl]
set_option maxRecDepth 100000 in
set_option maxHeartbeats 4000000 in
theorem us_new_any (w0 w : World) (p : PD) (r : RD) (d e : Dk) (gb : Nat) (cf : Cf) (L : List (Nat × List Value)) (G : List Gs) (F : List (World → Prop)) (h : Duo w0 w p r d e ⟨L, G, F⟩) (hg : (fun W => GeoAt W gb cf.b cf.s cf.l) ∈ F) (hc : cf.Ok) :
  Calls Tryz.prog 110 #[.pointer (some ⟨gb, 0, none⟩), .slice none 0 0] w fun en w' => ∃ q : TD, en = .returned (.pointer (some ⟨q.T, 0, none⟩)) ∧ (q.n : Int) = cf.s ∧ Duo w0 w' p r d e ⟨q.L (Tb.new q.n) L, G, F⟩ := by
 obtain ⟨n, hn⟩ : ∃ n : Nat, cf.s = (n : Int) := ⟨cf.s.toNat, by have := hc.2.1; omega⟩
 have hn32 : n ≤ 32 := by have := hc.2.1; omega
 have hn8 : 8 ≤ n := by have := hc.2.1; omega
 have HD := Lib.hid h
 have HG := Lib.hid hg
 have HNZ := Lib.hid hn
 have hmu : ∀ w : World, (Instr.makeSlice 200 (.int .i64 (n : Int)) (.int .i64 (n : Int))).run Tryz.prog w = .ok (.slice (some ⟨w.heap.size, 0, none⟩) n n) (w.alloc (.cells (usV (List.replicate n ⟨0, 0⟩)).toArray 208)) := make_uses n (by omega)
 have hmi : ∀ w : World, (Instr.makeSlice 34 (.int .i64 (n : Int)) (.int .i64 (n : Int))).run Tryz.prog w = .ok (.slice (some ⟨w.heap.size, 0, none⟩) n n) (w.alloc (.cells (ivs (List.replicate n 0)).toArray 3)) := make_ints n (by omega)
 have HMU := Lib.hid hmu
 have HMI := Lib.hid hmi
 clear h hg hn hmu hmi hc
 go_enter Tryz.func110, Tryz.ntmps110
 go_wp2_with fail
 refine (geom_config_any gb cf.b cf.s cf.l _ (HD.out.fact HG.out)).mono ?_
 rintro en w2 ⟨rfl, hO⟩
 have HD2 := Lib.hid (HD.out.keep0 hO)
 clear hO HD
 have hf1 := field_cfg1 cf.b cf.s cf.l
 rw [HNZ.out] at hf1
 rw [HNZ.out]
 go_wp2_with fail
 go_loopg [27] 0 (fun r s27 wr => r = 0 ∧ s27 = .int .i64 0 ∧ wr = w2)
 case atStart => exact ⟨rfl, rfl, rfl⟩
 obtain ⟨rfl, rfl, rfl⟩ := hrel
 go_wp2_with fail
 have HY := Lib.hid HD2.out.drew
 clear HD2
 refine wp_region_held_drew (S := (fun w' => True)) (by kernel_rfl) trivial (fun hSw0 => ?_)
 generalize wr.drew = wz at *
 refine Kn.takeS 0 ⟨some 50, _, _, _, _, _⟩ ?_
 refine Kn.takeS 1 ⟨some 51, _, _, _, _, _⟩ ?_
 refine Kn.takeS 3 ⟨some 53, _, _, _, _, _⟩ ?_
 refine wpAnyH_ready (rs := [2, 4]) (by kernel_rfl) (by simp) ?_
 refine AllReadyH.cons (o := ⟨some 52, _, _, _, _, _⟩) rfl (fun K hK => ?_) ?_
 ·have hmk := HMU.out
  go_simp
  clear hmk
  have HYu := Lib.hid (HY.out.newB (usV (List.replicate n ⟨0, 0⟩)).toArray 208 (b := wz.heap.size) rfl)
  clear HY
  generalize hvz : wz.heap.size = bu at *
  generalize hvb : wz.alloc (.cells (usV (List.replicate n ⟨0, 0⟩)).toArray 208) = va at *
  clear hvb hvz
  refine hK.out _ _ trivial (fun hSn => ?_)
  clear hK K hSw0
  have hSw0 := hSn
  clear hSn
  refine Kn.takeR 4 ⟨some 54, _, _, _, _, _⟩ fun K hK => ?_
  have hmk := HMI.out
  go_simp
  clear hmk
  have HYuv := Lib.hid (HYu.out.newB (ivs (List.replicate n 0)).toArray 3 (b := va.heap.size) rfl)
  clear HYu
  generalize hvz : va.heap.size = bv at *
  generalize hvb : va.alloc (.cells (ivs (List.replicate n 0)).toArray 3) = vb at *
  clear hvb hvz
  refine hK.out _ _ trivial (fun hSn => ?_)
  clear hK K hSw0
  have hSw0 := hSn
  clear hSn
  refine Kn.takeS 5 ⟨some 55, _, _, _, _, _⟩ ?_
  refine Kn.takeR 6 ⟨some 56, _, _, _, _, _⟩ fun K hK => ?_
  go_simp
  have HYuvt := Lib.hid (HYuv.out.newB #[.pointer (some ⟨gb, 0, none⟩), .slice (some ⟨bu, 0, none⟩) n n, .slice (some ⟨bv, 0, none⟩) n n] 210 (b := vb.heap.size) rfl)
  clear HYuv
  generalize hvz : vb.heap.size = bt at *
  generalize hvb : vb.alloc (.cells #[.pointer (some ⟨gb, 0, none⟩), .slice (some ⟨bu, 0, none⟩) n n, .slice (some ⟨bv, 0, none⟩) n n] 210) = vt at *
  clear hvb hvz
  refine hK.out _ _ trivial (fun hSn => ?_)
  clear hK K hSw0
  have hSw0 := hSn
  clear hSn
  refine Kn.takeS 7 ⟨some 8, _, _, _, _, _⟩ ?_
  refine wpAnyH_done (by kernel_rfl) ?_ _
  clear hSw0
  have HE := Lib.hid (HYuvt.out.permL (L' := (bt, [.pointer (some ⟨gb, 0, none⟩), .slice (some ⟨bu, 0, none⟩) n n, .slice (some ⟨bv, 0, none⟩) n n]) :: (bu, usV (List.replicate n ⟨0, 0⟩)) :: (bv, ivs (List.replicate n 0)) :: L) (perm_any (fun c => by simp only [List.map_cons, List.sum_cons]; omega)))
  have c1 := (HE.out.boxi 0 rfl).cellv 1
  have hcp : (Builtin.copy_ #[200, 200] 3 #[.slice (some ⟨bu, 0, none⟩) n n, .slice none 0 0]).run Tryz.prog vt = .ok (.int .i64 0) vt := run_copy_nil (P := Tryz.prog) vt _ _ _ 208 (some ⟨bu, 0, none⟩) n n 2 Tryz.underlying200 infoUse2
  go_wp2
  go_ret
  exact ⟨⟨bt, bu, bv, gb, n⟩, rfl, HNZ.out.symm, HE.out⟩
 refine AllReadyH.cons (o := ⟨some 54, _, _, _, _, _⟩) rfl (fun K hK => ?_) ?_
 ·have hmk := HMI.out
  go_simp
  clear hmk
  have HYv := Lib.hid (HY.out.newB (ivs (List.replicate n 0)).toArray 3 (b := wz.heap.size) rfl)
  clear HY
  generalize hvz : wz.heap.size = bv at *
  generalize hvb : wz.alloc (.cells (ivs (List.replicate n 0)).toArray 3) = vb at *
  clear hvb hvz
  refine hK.out _ _ trivial (fun hSn => ?_)
  clear hK K hSw0
  have hSw0 := hSn
  clear hSn
  refine Kn.takeR 2 ⟨some 52, _, _, _, _, _⟩ fun K hK => ?_
  have hmk := HMU.out
  go_simp
  clear hmk
  have HYvu := Lib.hid (HYv.out.newB (usV (List.replicate n ⟨0, 0⟩)).toArray 208 (b := vb.heap.size) rfl)
  clear HYv
  generalize hvz : vb.heap.size = bu at *
  generalize hvb : vb.alloc (.cells (usV (List.replicate n ⟨0, 0⟩)).toArray 208) = va at *
  clear hvb hvz
  refine hK.out _ _ trivial (fun hSn => ?_)
  clear hK K hSw0
  have hSw0 := hSn
  clear hSn
  refine Kn.takeS 5 ⟨some 55, _, _, _, _, _⟩ ?_
  refine Kn.takeR 6 ⟨some 56, _, _, _, _, _⟩ fun K hK => ?_
  go_simp
  have HYvut := Lib.hid (HYvu.out.newB #[.pointer (some ⟨gb, 0, none⟩), .slice (some ⟨bu, 0, none⟩) n n, .slice (some ⟨bv, 0, none⟩) n n] 210 (b := va.heap.size) rfl)
  clear HYvu
  generalize hvz : va.heap.size = bt at *
  generalize hvb : va.alloc (.cells #[.pointer (some ⟨gb, 0, none⟩), .slice (some ⟨bu, 0, none⟩) n n, .slice (some ⟨bv, 0, none⟩) n n] 210) = vt at *
  clear hvb hvz
  refine hK.out _ _ trivial (fun hSn => ?_)
  clear hK K hSw0
  have hSw0 := hSn
  clear hSn
  refine Kn.takeS 7 ⟨some 8, _, _, _, _, _⟩ ?_
  refine wpAnyH_done (by kernel_rfl) ?_ _
  clear hSw0
  have HE := HYvut
  have c1 := (HE.out.boxi 0 rfl).cellv 1
  have hcp : (Builtin.copy_ #[200, 200] 3 #[.slice (some ⟨bu, 0, none⟩) n n, .slice none 0 0]).run Tryz.prog vt = .ok (.int .i64 0) vt := run_copy_nil (P := Tryz.prog) vt _ _ _ 208 (some ⟨bu, 0, none⟩) n n 2 Tryz.underlying200 infoUse2
  go_wp2
  go_ret
  exact ⟨⟨bt, bu, bv, gb, n⟩, rfl, HNZ.out.symm, HE.out⟩
 exact AllReadyH.nil
end Go.Proofs.YtgcfdjcpcclcjaaGreat
namespace Go.Kn
open Go Go.RowKit
/-- where the reference's table lies -/
structure RT where
 T : Nat
 u : Nat
 v : Nat
 n : Nat
def RT.box (q : RT) (c : Cf) : List Value := [.int .i64 c.b, .int .i64 c.s, .int .i64 c.l, .slice (some ⟨q.u, 0, none⟩) q.n q.n, .slice (some ⟨q.v, 0, none⟩) q.n q.n]
def RT.L (q : RT) (c : Cf) (t : Tb) (L : List (Nat × List Value)) : List (Nat × List Value) := (q.T, q.box c) :: (q.u, usV t.us) :: (q.v, ivs t.live) :: L
end Go.Kn
namespace Go.Proofs.YtgcfdjcpcclcjaaGreat
open Go Go.RowKit Go.Kn
theorem rt_there_any (w : World) (q : RT) (c : Cf) (s : Int) (hT : Kn.Own w q.T (q.box c)) (hn : q.n ≤ 1000) : Calls Tryz.prog 163 #[.pointer (some ⟨q.T, 0, none⟩), .int .i64 s] w fun e w' => e = .returned (.bool (decide (0 ≤ s ∧ s < (q.n : Int)))) ∧ w = w' := by
 have c1 : w.cell? ⟨q.T, 3, none⟩ = some (.slice (some ⟨q.u, 0, none⟩) q.n q.n) := hT.cellv 3
 have hw : IntKind.i64.wrap ((q.n : Int) - 1) = (q.n : Int) - 1 := IntWalk.i64_in _ (by omega)
 have hd : decide (0 ≤ s ∧ s ≤ (q.n : Int) - 1) = decide (0 ≤ s ∧ s < (q.n : Int)) := by
  by_cases h : 0 ≤ s ∧ s < (q.n : Int)
  ·rw [decide_eq_true h, decide_eq_true (by omega)]
  ·rw [decide_eq_false h, decide_eq_false (by omega)]
 obtain ⟨bb, hbb⟩ : ∃ b, decide (0 ≤ s ∧ s < (q.n : Int)) = b := ⟨_, rfl⟩
 rw [hbb] at hd ⊢
 clear hbb
 have HDC := Lib.hid hd
 clear hT hd
 go_enter Tryz.func163, Tryz.ntmps163
 go_wp2_with fail
 refine (within_any s 0 ((q.n : Int) - 1) _).mono ?_
 rintro e w2 ⟨rfl, rfl⟩
 rw [HDC.out]
 go_wp2
 go_ret
 exact ⟨rfl, rfl⟩
set_option maxHeartbeats 4000000 in
theorem rt_grab_any (w0 w : World) (p : RT) (cf : Cf) (t : Tb) (s : Int) (L : List (Nat × List Value)) (G : List Gs) (F : List (World → Prop)) (hw : Wc w0 w (p.L cf t L) G F) (ht : t.Ok p.n) (hn : p.n ≤ 1000) :
  Calls Tryz.prog 113 #[.pointer (some ⟨p.T, 0, none⟩), .int .i64 s] w fun e w' => e = .returned (.bool (t.grabs s)) ∧ Wc w0 w' (p.L cf (t.grab s) L) G F := by
 have HW := Lib.hid hw
 have HO := Lib.hid ht
 clear hw ht
 have HT : Hid (Kn.Own w p.T (p.box cf)) := Lib.hid (HW.out.boxi 0 rfl)
 have c3 : w.cell? ⟨p.T, 3, none⟩ = some (.slice (some ⟨p.u, 0, none⟩) p.n p.n) := HT.out.cellv 3
 have c4 : w.cell? ⟨p.T, 4, none⟩ = some (.slice (some ⟨p.v, 0, none⟩) p.n p.n) := HT.out.cellv 4
 have lt := HT.out.lt
 by_cases hs : 0 ≤ s ∧ s < (p.n : Int)
 ·obtain ⟨s, rfl⟩ : ∃ k : Nat, s = k := ⟨s.toNat, by omega⟩
  have hsl : s < t.us.length := by rw [HO.out.u]; omega
  have hsv : s < t.live.length := by rw [HO.out.l]; omega
  have c0 := (us_cell (HW.out.boxi 1 rfl) hsl).1
  have hsn : (s : Int) < (p.n : Int) := hs.2
  have hd := decide_eq_true hs
  obtain ⟨st, hst⟩ : ∃ x, t.us[s].st = x := ⟨_, rfl⟩
  rw [hst] at c0
  have hgr : t.grabs (s : Int) = decide (st = 0) := by unfold Tb.grabs; rw [tb_has HO.out, hd, us_get hsl, hst, Bool.true_and]
  have HST := Lib.hid hst
  have HGR := Lib.hid hgr
  clear hst hgr hs
  go_enter Tryz.func113, Tryz.ntmps113
  go_wp2_with fail
  refine (rt_there_any _ p cf s HT.out hn).mono ?_
  rintro e w2 ⟨rfl, rfl⟩
  rw [hd]
  by_cases h0 : st = 0
  ·subst h0
   have hgb : t.grab (s : Int) = ⟨t.us.set s ⟨1, t.us[s].sp⟩, t.live.set s 0⟩ := by unfold Tb.grab; rw [HGR.out, if_pos (by decide), us_get hsl, Int.toNat_natCast]
   have hu1 : (usV t.us).set (s * 2) (.int .i64 1) = usV (t.us.set s ⟨1, t.us[s].sp⟩) := usV_set t.us s 0 ⟨1, t.us[s].sp⟩ _ hsl (by decide) (by rw [List.getD_eq_getElem?_getD, List.getElem?_eq_getElem hsl]; rfl)
   have hv1 : (ivs t.live).set s (.int .i64 0) = ivs (t.live.set s 0) := by unfold ivs; rw [List.map_set]
   have z0 := (HW.out.boxi 1 rfl).frozen (s * 2)
   have l0 := (HW.out.boxi 1 rfl).lt
   have h1 := HW.out.put 1 rfl (s * 2) (.int .i64 1)
   simp only [List.set_cons_zero, List.set_cons_succ, hu1] at h1
   have H1 := Lib.hid h1
   have y4 := (h1.boxi 0 rfl).cellv 4
   have y0 := (h1.boxi 2 rfl).cell s (by simp [ivs]; omega)
   have yz := (h1.boxi 2 rfl).frozen s
   have yl := (h1.boxi 2 rfl).lt
   have h2 := h1.put 2 rfl s (.int .i64 0)
   simp only [List.set_cons_zero, List.set_cons_succ, hv1] at h2
   have H2 := Lib.hid h2
   have HGB := Lib.hid hgb
   clear hgb hu1 hv1 h1 h2
   go_wp2
   go_ret
   rw [HGR.out, HGB.out]
   exact ⟨rfl, H2.out⟩
  ·have hgf : t.grab (s : Int) = t := by unfold Tb.grab; rw [HGR.out, decide_eq_false h0]; rfl
   have hb : (st != 0) = true := by rw [bne_iff_ne]; exact h0
   have HGB := Lib.hid hgf
   have HD0 : Hid (decide (st = 0) = false) := Lib.hid (decide_eq_false h0)
   clear hgf h0
   go_wp2
   go_ret
   rw [HGR.out, HGB.out, HD0.out]
   exact ⟨rfl, HW.out⟩
 ·have hd := decide_eq_false hs
  have hgr : t.grabs s = false := by unfold Tb.grabs; rw [tb_has HO.out, hd]; rfl
  have hgb : t.grab s = t := by unfold Tb.grab; rw [hgr]; rfl
  have HGB := Lib.hid hgb
  have HGR := Lib.hid hgr
  clear hgb hgr hs
  go_enter Tryz.func113, Tryz.ntmps113
  go_wp2_with fail
  refine (rt_there_any _ p cf s HT.out hn).mono ?_
  rintro e w2 ⟨rfl, rfl⟩
  rw [hd]
  go_wp2
  go_ret
  rw [HGR.out, HGB.out]
  exact ⟨rfl, HW.out⟩
set_option maxHeartbeats 4000000 in
theorem rt_seal_any (w0 w : World) (p : RT) (cf : Cf) (t : Tb) (s : Int) (L : List (Nat × List Value)) (G : List Gs) (F : List (World → Prop)) (hw : Wc w0 w (p.L cf t L) G F) (ht : t.Ok p.n) (hn : p.n ≤ 1000) :
  Calls Tryz.prog 115 #[.pointer (some ⟨p.T, 0, none⟩), .int .i64 s] w fun e w' => e = .returned (.tuple #[]) ∧ Wc w0 w' (p.L cf (t.shut s) L) G F := by
 have HW := Lib.hid hw
 have HO := Lib.hid ht
 clear hw ht
 have HT : Hid (Kn.Own w p.T (p.box cf)) := Lib.hid (HW.out.boxi 0 rfl)
 have c3 : w.cell? ⟨p.T, 3, none⟩ = some (.slice (some ⟨p.u, 0, none⟩) p.n p.n) := HT.out.cellv 3
 have lt := HT.out.lt
 by_cases hs : 0 ≤ s ∧ s < (p.n : Int)
 ·obtain ⟨s, rfl⟩ : ∃ k : Nat, s = k := ⟨s.toNat, by omega⟩
  have hsl : s < t.us.length := by rw [HO.out.u]; omega
  have c0 := (us_cell (HW.out.boxi 1 rfl) hsl).1
  have hsn : (s : Int) < (p.n : Int) := hs.2
  have hd := decide_eq_true hs
  have hgr : t.has (s : Int) = true := by rw [tb_has HO.out, hd]
  obtain ⟨st, hst⟩ : ∃ x, t.us[s].st = x := ⟨_, rfl⟩
  rw [hst] at c0
  have HST := Lib.hid hst
  have HGR := Lib.hid hgr
  clear hst hgr hs
  go_enter Tryz.func115, Tryz.ntmps115
  go_wp2_with fail
  refine (rt_there_any _ p cf s HT.out hn).mono ?_
  rintro e w2 ⟨rfl, rfl⟩
  rw [hd]
  by_cases h0 : st = 1
  ·subst h0
   have hgb : t.shut (s : Int) = ⟨t.us.set s ⟨2, t.us[s].sp⟩, t.live⟩ := by unfold Tb.shut; rw [HGR.out, us_get hsl, HST.out, if_pos (by decide), Int.toNat_natCast]
   have hu1 : (usV t.us).set (s * 2) (.int .i64 2) = usV (t.us.set s ⟨2, t.us[s].sp⟩) := usV_set t.us s 0 ⟨2, t.us[s].sp⟩ _ hsl (by decide) (by rw [List.getD_eq_getElem?_getD, List.getElem?_eq_getElem hsl]; rfl)
   have z0 := (HW.out.boxi 1 rfl).frozen (s * 2)
   have l0 := (HW.out.boxi 1 rfl).lt
   have h1 := HW.out.put 1 rfl (s * 2) (.int .i64 2)
   simp only [List.set_cons_zero, List.set_cons_succ, hu1] at h1
   have H1 := Lib.hid h1
   have HGB := Lib.hid hgb
   clear hgb hu1 h1
   go_wp2
   refine bodyPost_end (results_none rfl _ _ _) rfl ⟨rfl, ?_⟩
   rw [HGB.out]
   exact H1.out
  ·have hgf : t.shut (s : Int) = t := by unfold Tb.shut; rw [HGR.out, us_get hsl, HST.out, decide_eq_false h0]; rfl
   have hb : (st == 1) = false := by simpa using h0
   have HGB := Lib.hid hgf
   clear hgf h0
   go_wp2
   refine bodyPost_end (results_none rfl _ _ _) rfl ⟨rfl, ?_⟩
   rw [HGB.out]
   exact HW.out
 ·have hd := decide_eq_false hs
  have hgb : t.shut s = t := by unfold Tb.shut; rw [tb_has HO.out, hd]; simp
  have HGB := Lib.hid hgb
  clear hgb hs
  go_enter Tryz.func115, Tryz.ntmps115
  go_wp2_with fail
  refine (rt_there_any _ p cf s HT.out hn).mono ?_
  rintro e w2 ⟨rfl, rfl⟩
  rw [hd]
  go_wp2
  refine bodyPost_end (results_none rfl _ _ _) rfl ⟨rfl, ?_⟩
  rw [HGB.out]
  exact HW.out
theorem duo_rgrab {w0 w : World} {p : PD} {r : RD} {d e : Dk} {q : RT} {cf : Cf} {t : Tb} {L : List (Nat × List Value)} {G : List Gs} {F : List (World → Prop)} (s : Int) (h : Duo w0 w p r d e ⟨q.L cf t L, G, F⟩) (ht : t.Ok q.n) (hn : q.n ≤ 1000) :
  Calls Tryz.prog 113 #[.pointer (some ⟨q.T, 0, none⟩), .int .i64 s] w fun en w' => en = .returned (.bool (t.grabs s)) ∧ Duo w0 w' p r d e ⟨q.L cf (t.grab s) L, G, F⟩ := by
 obtain ⟨L0, G0, F0, hw, back⟩ := h.fr
 refine (rt_grab_any w0 w q cf t s (L ++ L0) (G ++ G0) (F ++ F0) hw ht hn).mono ?_
 rintro en w1 ⟨rfl, h1⟩
 exact ⟨rfl, back w1 ⟨q.L cf (t.grab s) L, G, F⟩ h1⟩
theorem duo_rseal {w0 w : World} {p : PD} {r : RD} {d e : Dk} {q : RT} {cf : Cf} {t : Tb} {L : List (Nat × List Value)} {G : List Gs} {F : List (World → Prop)} (s : Int) (h : Duo w0 w p r d e ⟨q.L cf t L, G, F⟩) (ht : t.Ok q.n) (hn : q.n ≤ 1000) :
  Calls Tryz.prog 115 #[.pointer (some ⟨q.T, 0, none⟩), .int .i64 s] w fun en w' => en = .returned (.tuple #[]) ∧ Duo w0 w' p r d e ⟨q.L cf (t.shut s) L, G, F⟩ := by
 obtain ⟨L0, G0, F0, hw, back⟩ := h.fr
 refine (rt_seal_any w0 w q cf t s (L ++ L0) (G ++ G0) (F ++ F0) hw ht hn).mono ?_
 rintro en w1 ⟨rfl, h1⟩
 exact ⟨rfl, back w1 ⟨q.L cf (t.shut s) L, G, F⟩ h1⟩
set_option maxRecDepth 100000 in
set_option maxHeartbeats 4000000 in
theorem rt_new_any (w0 w : World) (p : PD) (r : RD) (d e : Dk) (cf : Cf) (L : List (Nat × List Value)) (G : List Gs) (F : List (World → Prop)) (h : Duo w0 w p r d e ⟨L, G, F⟩) (hc : cf.Ok) :
  Calls Tryz.prog 111 #[.agg #[.int .i64 cf.b, .int .i64 cf.s, .int .i64 cf.l], .slice none 0 0] w fun en w' => ∃ q : RT, en = .returned (.pointer (some ⟨q.T, 0, none⟩)) ∧ (q.n : Int) = cf.s ∧ Duo w0 w' p r d e ⟨q.L cf (Tb.new q.n) L, G, F⟩ := by
 obtain ⟨n, hn⟩ : ∃ n : Nat, cf.s = (n : Int) := ⟨cf.s.toNat, by have := hc.2.1; omega⟩
 have hn32 : n ≤ 32 := by have := hc.2.1; omega
 have HD := Lib.hid (h.newB #[.int .i64 cf.b, .int .i64 cf.s, .int .i64 cf.l] 25 rfl)
 have HNZ := Lib.hid hn
 have hmu : ∀ w : World, (Instr.makeSlice 200 (.int .i64 cf.s) (.int .i64 cf.s)).run Tryz.prog w = .ok (.slice (some ⟨w.heap.size, 0, none⟩) n n) (w.alloc (.cells (usV (List.replicate n ⟨0, 0⟩)).toArray 208)) := by rw [hn]; exact make_uses n (by omega)
 have hmi : ∀ w : World, (Instr.makeSlice 34 (.int .i64 cf.s) (.int .i64 cf.s)).run Tryz.prog w = .ok (.slice (some ⟨w.heap.size, 0, none⟩) n n) (w.alloc (.cells (ivs (List.replicate n 0)).toArray 3)) := by rw [hn]; exact make_ints n (by omega)
 have HMU := Lib.hid hmu
 have HMI := Lib.hid hmi
 clear h hn hmu hmi hc
 go_enter Tryz.func111, Tryz.ntmps111
 go_wp2_with fail
 generalize hz : w.alloc (.cells #[.int .i64 cf.b, .int .i64 cf.s, .int .i64 cf.l] 25) = w1 at *
 generalize w.heap.size = f2 at *
 clear hz
 have HY := Lib.hid HD.out.drew
 clear HD
 refine wp_region_held_drew (S := (fun w' => Kn.Own w' f2 [.int .i64 cf.b, .int .i64 cf.s, .int .i64 cf.l])) (by kernel_rfl) (HY.out.boxi 0 rfl) (fun hSw0 => ?_)
 generalize w1.drew = wz at *
 refine Kn.takeS 0 ⟨some 7, _, _, _, _, _⟩ (v := (.agg #[.int .i64 cf.b, .int .i64 cf.s, .int .i64 cf.l])) (hy := fun w hSw => by
  obtain ⟨q0, q1, q2⟩ := own3 hSw
  go_simp) ?_
 refine Kn.takeS 1 ⟨some 8, _, _, _, _, _⟩ ?_
 refine Kn.takeS 2 ⟨some 9, _, _, _, _, _⟩ (v := (.int .i64 cf.s)) (hy := fun w hSw => by
  obtain ⟨q0, q1, q2⟩ := own3 hSw
  go_simp) ?_
 refine Kn.takeS 4 ⟨some 11, _, _, _, _, _⟩ ?_
 refine Kn.takeS 5 ⟨some 12, _, _, _, _, _⟩ (v := (.int .i64 cf.s)) (hy := fun w hSw => by
  obtain ⟨q0, q1, q2⟩ := own3 hSw
  go_simp) ?_
 refine wpAnyH_ready (rs := [3, 6]) (by kernel_rfl) (by simp) ?_
 refine AllReadyH.cons (o := ⟨some 10, _, _, _, _, _⟩) rfl (fun K hK => ?_) ?_
 ·have hmk := HMU.out
  go_simp
  clear hmk
  have HYu := Lib.hid (HY.out.newB (usV (List.replicate n ⟨0, 0⟩)).toArray 208 (b := wz.heap.size) rfl)
  clear HY
  generalize hvz : wz.heap.size = bu at *
  generalize hvb : wz.alloc (.cells (usV (List.replicate n ⟨0, 0⟩)).toArray 208) = va at *
  clear hvb hvz
  refine hK.out _ _ (HYu.out.boxi 1 rfl) (fun hSn => ?_)
  clear hK K hSw0
  have hSw0 := hSn
  clear hSn
  refine Kn.takeR 6 ⟨some 13, _, _, _, _, _⟩ fun K hK => ?_
  have hmk := HMI.out
  go_simp
  clear hmk
  have HYuv := Lib.hid (HYu.out.newB (ivs (List.replicate n 0)).toArray 3 (b := va.heap.size) rfl)
  clear HYu
  generalize hvz : va.heap.size = bv at *
  generalize hvb : va.alloc (.cells (ivs (List.replicate n 0)).toArray 3) = vb at *
  clear hvb hvz
  refine hK.out _ _ (HYuv.out.boxi 2 rfl) (fun hSn => ?_)
  clear hK K hSw0
  have hSw0 := hSn
  clear hSn
  refine Kn.takeS 7 ⟨some 14, _, _, _, _, _⟩ ?_
  refine Kn.takeR 8 ⟨some 15, _, _, _, _, _⟩ fun K hK => ?_
  go_simp
  have HYuvt := Lib.hid (HYuv.out.newB #[.int .i64 cf.b, .int .i64 cf.s, .int .i64 cf.l, .slice (some ⟨bu, 0, none⟩) n n, .slice (some ⟨bv, 0, none⟩) n n] 233 (b := vb.heap.size) rfl)
  clear HYuv
  generalize hvz : vb.heap.size = bt at *
  generalize hvb : vb.alloc (.cells #[.int .i64 cf.b, .int .i64 cf.s, .int .i64 cf.l, .slice (some ⟨bu, 0, none⟩) n n, .slice (some ⟨bv, 0, none⟩) n n] 233) = vt at *
  clear hvb hvz
  refine hK.out _ _ (HYuvt.out.boxi 3 rfl) (fun hSn => ?_)
  clear hK K hSw0
  have hSw0 := hSn
  clear hSn
  refine Kn.takeS 9 ⟨some 5, _, _, _, _, _⟩ ?_
  refine wpAnyH_done (by kernel_rfl) ?_ _
  clear hSw0
  have HE := Lib.hid ((HYuvt.out.permL (L' := (f2, [.int .i64 cf.b, .int .i64 cf.s, .int .i64 cf.l]) :: (bt, [.int .i64 cf.b, .int .i64 cf.s, .int .i64 cf.l, .slice (some ⟨bu, 0, none⟩) n n, .slice (some ⟨bv, 0, none⟩) n n]) :: (bu, usV (List.replicate n ⟨0, 0⟩)) :: (bv, ivs (List.replicate n 0)) :: L) (perm_any (fun c => by simp only [List.map_cons, List.sum_cons]; omega))).ldrop)
  go_wp2
  go_ret
  exact ⟨⟨bt, bu, bv, n⟩, rfl, HNZ.out.symm, HE.out⟩
 refine AllReadyH.cons (o := ⟨some 13, _, _, _, _, _⟩) rfl (fun K hK => ?_) ?_
 ·have hmk := HMI.out
  go_simp
  clear hmk
  have HYv := Lib.hid (HY.out.newB (ivs (List.replicate n 0)).toArray 3 (b := wz.heap.size) rfl)
  clear HY
  generalize hvz : wz.heap.size = bv at *
  generalize hvb : wz.alloc (.cells (ivs (List.replicate n 0)).toArray 3) = vb at *
  clear hvb hvz
  refine hK.out _ _ (HYv.out.boxi 1 rfl) (fun hSn => ?_)
  clear hK K hSw0
  have hSw0 := hSn
  clear hSn
  refine Kn.takeR 3 ⟨some 10, _, _, _, _, _⟩ fun K hK => ?_
  have hmk := HMU.out
  go_simp
  clear hmk
  have HYvu := Lib.hid (HYv.out.newB (usV (List.replicate n ⟨0, 0⟩)).toArray 208 (b := vb.heap.size) rfl)
  clear HYv
  generalize hvz : vb.heap.size = bu at *
  generalize hvb : vb.alloc (.cells (usV (List.replicate n ⟨0, 0⟩)).toArray 208) = va at *
  clear hvb hvz
  refine hK.out _ _ (HYvu.out.boxi 2 rfl) (fun hSn => ?_)
  clear hK K hSw0
  have hSw0 := hSn
  clear hSn
  refine Kn.takeS 7 ⟨some 14, _, _, _, _, _⟩ ?_
  refine Kn.takeR 8 ⟨some 15, _, _, _, _, _⟩ fun K hK => ?_
  go_simp
  have HYvut := Lib.hid (HYvu.out.newB #[.int .i64 cf.b, .int .i64 cf.s, .int .i64 cf.l, .slice (some ⟨bu, 0, none⟩) n n, .slice (some ⟨bv, 0, none⟩) n n] 233 (b := va.heap.size) rfl)
  clear HYvu
  generalize hvz : va.heap.size = bt at *
  generalize hvb : va.alloc (.cells #[.int .i64 cf.b, .int .i64 cf.s, .int .i64 cf.l, .slice (some ⟨bu, 0, none⟩) n n, .slice (some ⟨bv, 0, none⟩) n n] 233) = vt at *
  clear hvb hvz
  refine hK.out _ _ (HYvut.out.boxi 3 rfl) (fun hSn => ?_)
  clear hK K hSw0
  have hSw0 := hSn
  clear hSn
  refine Kn.takeS 9 ⟨some 5, _, _, _, _, _⟩ ?_
  refine wpAnyH_done (by kernel_rfl) ?_ _
  clear hSw0
  have HE := Lib.hid ((HYvut.out.permL (L' := (f2, [.int .i64 cf.b, .int .i64 cf.s, .int .i64 cf.l]) :: (bt, [.int .i64 cf.b, .int .i64 cf.s, .int .i64 cf.l, .slice (some ⟨bu, 0, none⟩) n n, .slice (some ⟨bv, 0, none⟩) n n]) :: (bu, usV (List.replicate n ⟨0, 0⟩)) :: (bv, ivs (List.replicate n 0)) :: L) (perm_any (fun c => by simp only [List.map_cons, List.sum_cons]; omega))).ldrop)
  go_wp2
  go_ret
  exact ⟨⟨bt, bu, bv, n⟩, rfl, HNZ.out.symm, HE.out⟩
 exact AllReadyH.nil
/-- where the reference's writer lies -/
def XB (r : RD) (q : RT) (c : Cf) (ps : Ps) (vi vb : Value) : List Value := [.pointer (some ⟨r.M, 0, none⟩), .int .i64 c.b, .int .i64 c.s, .int .i64 c.l, .pointer (some ⟨q.T, 0, none⟩), .int .i64 ps.s, .int .i64 ps.o, .int .i64 ps.l, .int .i64 ps.p, .int .i64 ps.m, vi, vb]
def RNewSays (w0 : World) (p : PD) (r : RD) (d e : Dk) (q : RT) (c : Cf) (ps : Ps) (L : List (Nat × List Value)) (G : List Gs) (F : List (World → Prop)) : Bool → Ending → World → Prop
 | true, en, w' => ∃ X, en = .returned (.pointer (some ⟨X, 0, none⟩)) ∧ Duo w0 w' p r d e ⟨(X, XB r q c ps (.slice none 0 0) (.slice none 0 0)) :: L, G, F⟩
 | false, en, w' => en = .returned (.pointer none) ∧ Duo w0 w' p r d e ⟨L, G, F⟩
set_option maxRecDepth 100000 in
set_option maxHeartbeats 4000000 in
theorem rw_new_any (w0 w : World) (p : PD) (r : RD) (d e : Dk) (q : RT) (ps : Ps) (cf : Cf) (L : List (Nat × List Value)) (G : List Gs) (F : List (World → Prop)) (h : Duo w0 w p r d e ⟨L, G, F⟩) (hc : cf.Ok) :
  Calls Tryz.prog 116 #[.pointer (some ⟨r.M, 0, none⟩), .agg #[.int .i64 cf.b, .int .i64 cf.s, .int .i64 cf.l], .pointer (some ⟨q.T, 0, none⟩), .agg #[.int .i64 ps.s, .int .i64 ps.o, .int .i64 ps.l, .int .i64 ps.p, .int .i64 ps.m]] w (RNewSays w0 p r d e q cf ps L G F (posMay cf.s cf.l ps.s ps.o ps.l ps.p ps.m)) := by
 have hs1 : (w.alloc (.cells #[.int .i64 cf.b, .int .i64 cf.s, .int .i64 cf.l] 25)).heap.size = w.heap.size + 1 := by simp
 have HD := Lib.hid ((h.newB #[.int .i64 cf.b, .int .i64 cf.s, .int .i64 cf.l] 25 rfl).newB #[.int .i64 ps.s, .int .i64 ps.o, .int .i64 ps.l, .int .i64 ps.p, .int .i64 ps.m] 32 hs1)
 have HC := Lib.hid hc
 clear h hc
 go_enter Tryz.func116, Tryz.ntmps116
 go_wp2_with fail
 (try rw [hs1])
 generalize hz : (w.alloc (.cells #[.int .i64 cf.b, .int .i64 cf.s, .int .i64 cf.l] 25)).alloc (.cells #[.int .i64 ps.s, .int .i64 ps.o, .int .i64 ps.l, .int .i64 ps.p, .int .i64 ps.m] 32) = w1 at *
 generalize w.heap.size = f5 at *
 generalize f5 + 1 = f7 at *
 clear hz hs1
 refine (ref_posmay_any cf.b cf.s cf.l ps.s ps.o ps.l ps.p ps.m _ HC.out).mono ?_
 rintro en w2 ⟨rfl, hO⟩
 have HD2 := Lib.hid (HD.out.keep0 hO)
 obtain ⟨y0, y1, y2, y3, y4⟩ := own5 (HD2.out.boxi 0 rfl)
 obtain ⟨x0, x1, x2⟩ := own3 (HD2.out.boxi 1 rfl)
 clear hO HD
 obtain ⟨mb, hmb⟩ : ∃ x, posMay cf.s cf.l ps.s ps.o ps.l ps.p ps.m = x := ⟨_, rfl⟩
 have HMB := Lib.hid hmb
 rw [hmb]
 clear hmb
 cases mb with
 | true =>
  have HE := Lib.hid (HD2.out.ldrop.ldrop.newB #[.pointer (some ⟨r.M, 0, none⟩), .int .i64 cf.b, .int .i64 cf.s, .int .i64 cf.l, .pointer (some ⟨q.T, 0, none⟩), .int .i64 ps.s, .int .i64 ps.o, .int .i64 ps.l, .int .i64 ps.p, .int .i64 ps.m, .slice none 0 0, .slice none 0 0] 195 rfl)
  go_wp2
  go_ret
  rw [HMB.out]
  exact ⟨_, rfl, HE.out⟩
 | false =>
  go_wp2
  go_ret
  rw [HMB.out]
  exact ⟨rfl, HD2.out.ldrop.ldrop⟩
end Go.Proofs.YtgcfdjcpcclcjaaGreat
namespace Go.Kn
open Go Go.RowKit
section
variable {c : Cf} {z : Wr} {d : Dk} {a : Int} {b : List UInt8} {n : Nat} {i : It}
theorem wrs_held (h : Rdy d) (ha : 0 ≤ a) (hb : 64 * n ≤ b.length) (hr : a + n ≤ d.safe.length) : ∀ i, i ≤ n → (d.wrs a b i).held.length = d.held.length + i
 | 0, _ => rfl
 | i + 1, hi => by
  obtain ⟨h1, _, h3⟩ := h.wrs ha hb hr i (by omega)
  have e := Dk.write_go (d := d.wrs a b i) (a := a + (i : Nat)) (b := (b.drop (64 * i)).take 64) h1.live (has_of (by omega) (by rw [h3]; omega)) (by rw [List.length_take, List.length_drop]; omega)
  show ((d.wrs a b i).write (a + (i : Nat)) ((b.drop (64 * i)).take 64)).1.held.length = _
  rw [e]
  show ((d.wrs a b i).held ++ [_]).length = _
  rw [List.length_append, wrs_held h ha hb hr i (by omega)]
  simp
  omega
theorem seqW_wrs (h : Rdy d) (ha : 0 ≤ a) (hb : 64 * n ≤ b.length) (hr : a + n ≤ d.safe.length) : seqW d a (rows64 b n) = (d.wrs a b n, 0) := by
 have key : ∀ i, i ≤ n → seqW d a ((rows64 b n).take i) = (d.wrs a b i, 0) := by
  intro i
  induction i with
  | zero => intro _; rfl
  | succ i ih =>
   intro hi
   obtain ⟨h1, _, h3⟩ := h.wrs ha hb hr i (by omega)
   have e := Dk.write_go (d := d.wrs a b i) (a := a + (i : Nat)) (b := (b.drop (64 * i)).take 64) h1.live (has_of (by omega) (by rw [h3]; omega)) (by rw [List.length_take, List.length_drop]; omega)
   have hl : ((rows64 b n).take i).length = i := by rw [List.length_take, rows64_len]; omega
   rw [rows64_take b n i (by omega), seqW_ok _ _ _ _ _ (ih (by omega)), hl, seqW_go _ _ _ _ _ e]
   show ((d.wrs a b i).wrote _ _, (0 : Int)) = (((d.wrs a b i).write (a + (i : Nat)) ((b.drop (64 * i)).take 64)).1, 0)
   rw [e]
 have := key n (Nat.le_refl _)
 rwa [List.take_of_length_le (by rw [rows64_len]; omega)] at this
/-- a writer that does its work: a disk that stands ready, a place in the log, items that fit -/
structure Hw (c : Cf) (z : Wr) : Prop where
 cok : c.Ok
 rdy : Rdy z.d
 len : (z.d.safe.length : Int) = c.sectors
 s : 0 ≤ z.p.s ∧ z.p.s ≤ c.s - 1
 o : 0 ≤ z.p.o ∧ z.p.o ≤ c.l - 1
 l : 1 ≤ z.p.l
 pp : 0 ≤ z.p.p ∧ z.p.p ≤ 4294967295
 m : 1 ≤ z.p.m ∧ z.p.m ≤ 2147483647
 may : z.its.all It.may = true
 k7 : ∀ i ∈ z.its, i.k ≠ 7
 ld : z.bl.length = loads z.its
 f64 : full64 z.bl = true
 six : z.its.length ≤ 6
 fit : z.its = [] ∨ behind z.p.o z.bl.length ≤ c.l - 1
/-- the record that waits -/
def Wr.rcd (z : Wr) : Rc := ⟨z.p.m, z.p.l, z.p.p, z.its, z.bl⟩
theorem Hw.recMay (h : Hw c z) (hl : z.p.l ≤ 2147483647) (hn : z.its ≠ []) : rcMay z.rcd = true := by
 have h0 : z.its.length ≠ 0 := fun e => hn (List.length_eq_zero_iff.1 e)
 exact rcMay_iff.2 ⟨⟨h.m, ⟨h.l, hl⟩, h.pp, ⟨by show 1 ≤ z.its.length; omega, h.six⟩⟩, h.may, h.ld, h.f64⟩
/-- the segment's first sector, its head laid if there was none -/
theorem begin_go (hc : c.Ok) (hr : Rdy z.d) (hlen : (z.d.safe.length : Int) = c.sectors) (hs : 0 ≤ z.p.s ∧ z.p.s ≤ c.s - 1) (hl : 1 ≤ z.p.l ∧ z.p.l ≤ 2147483647) (hp : 0 ≤ z.p.p ∧ z.p.p ≤ 4294967295) (hm : 1 ≤ z.p.m ∧ z.p.m ≤ 2147483647) (ho : 0 ≤ z.p.o) :
  ∃ d, z.begin_ c = ({ z with d := d, p := { z.p with o := max z.p.o 1 } }, 0) ∧ Rdy d ∧ (d.safe.length : Int) = c.sectors ∧ d.held.length = z.d.held.length + (if z.p.o = 0 then 1 else 0) ∧ d.now = (if z.p.o = 0 then z.d.now.set (c.at_ z.p.s).toNat (headB z.p) else z.d.now) := by
 obtain ⟨g1, g2, g3⟩ := Cf.sec c hc z.p.s hs.1 hs.2
 have hc2 := hc.2.2
 have hs8 := hc.2.1
 by_cases h0 : 0 < z.p.o
 ·refine ⟨z.d, ?_, hr, hlen, by rw [if_neg (by omega)]; rfl, by rw [if_neg (by omega)]⟩
  unfold Wr.begin_
  rw [if_pos h0, show max z.p.o 1 = z.p.o from by omega]
 ·have hmay : headMay z.p.head = true := head_may (s := z.p.s) (o := z.p.o) (l := z.p.l) (p := z.p.p) (m := z.p.m) ⟨hs.1, by omega⟩ hl hp hm
  have hen : encHead z.p.head = some (headB z.p) := by unfold encHead headB; rw [if_pos hmay]
  have e := Dk.write_go (d := z.d) (a := c.at_ z.p.s) (b := headB z.p) hr.live (has_of (by omega) (by omega)) (headB_length _)
  obtain ⟨k1, k2, k3⟩ := hr.write (a := c.at_ z.p.s) (b := headB z.p) (has_of (by omega) (by omega)) (headB_length _)
  rw [e] at k1 k2 k3
  refine ⟨z.d.wrote (c.at_ z.p.s) (headB z.p), ?_, k1, by rw [k3]; exact hlen, ?_, ?_⟩
  ·unfold Wr.begin_
   rw [if_neg h0, hen]
   simp only [e, if_true]
   rw [show max z.p.o 1 = 1 from by omega]
  ·rw [if_pos (by omega)]
   show (z.d.held ++ [_]).length = _
   simp
  ·rw [if_pos (by omega)]
   exact k2
theorem write_go (hc : c.Ok) (hr : Rdy z.d) (hlen : (z.d.safe.length : Int) = c.sectors) (hs : 0 ≤ z.p.s ∧ z.p.s ≤ c.s - 1) (ho : 1 ≤ z.p.o) {its : List It} {bl : List (List UInt8)} (hm : rcMay ⟨z.p.m, z.p.l, z.p.p, its, bl⟩ = true) (hf : behind z.p.o bl.length ≤ c.l) :
  ∃ d, z.write c its bl = (⟨d, z.t.touch z.p.s z.p.l, ⟨z.p.s, behind z.p.o bl.length, z.p.l + 1, (rcSum ⟨z.p.m, z.p.l, z.p.p, its, bl⟩ : Nat), z.p.m⟩, z.its, z.bl⟩, 0) ∧ Rdy d ∧ (d.safe.length : Int) = c.sectors ∧ d.held.length = z.d.held.length + 1 + bl.length ∧
   d.now = setSecs z.d.now (c.at_ z.p.s + z.p.o).toNat (rcBytes ⟨z.p.m, z.p.l, z.p.p, its, bl⟩) (1 + bl.length) := by
 obtain ⟨g1, g2, g3⟩ := Cf.sec c hc z.p.s hs.1 hs.2
 have hen := enc_rc hm
 have hbl := rcBytes_length hm
 have hb : behind z.p.o bl.length = z.p.o + 1 + (bl.length : Int) := by unfold behind; omega
 rw [hb] at hf
 have hbl2 : (rcBytes ⟨z.p.m, z.p.l, z.p.p, its, bl⟩).length = 64 * (1 + bl.length) := hbl
 have hdiv : (rcBytes ⟨z.p.m, z.p.l, z.p.p, its, bl⟩).length / 64 = 1 + bl.length := by omega
 have hrr : c.at_ z.p.s + z.p.o + ((1 + bl.length : Nat) : Int) ≤ z.d.safe.length := by push_cast; omega
 have e := seqW_wrs hr (a := c.at_ z.p.s + z.p.o) (b := rcBytes ⟨z.p.m, z.p.l, z.p.p, its, bl⟩) (n := 1 + bl.length) (by omega) (by omega) hrr
 obtain ⟨k1, k2, k3⟩ := hr.wrs (a := c.at_ z.p.s + z.p.o) (b := rcBytes ⟨z.p.m, z.p.l, z.p.p, its, bl⟩) (n := 1 + bl.length) (by omega) (by omega) hrr (1 + bl.length) (Nat.le_refl _)
 refine ⟨_, ?_, k1, by rw [k3]; exact hlen, ?_, k2⟩
 ·unfold Wr.write
  rw [hen]
  simp only [hdiv, e, if_true]
 ·rw [wrs_held hr (by omega) (by omega) hrr _ (Nat.le_refl _)]
  omega
theorem Hw.emit (h : Hw c z) (hl : z.p.l ≤ 2147483647) (hn : z.its ≠ []) :
  ∃ d, z.emit c = (⟨d, z.t.touch z.p.s z.p.l, ⟨z.p.s, behind z.p.o z.bl.length, z.p.l + 1, (rcSum z.rcd : Nat), z.p.m⟩, [], []⟩, 0) ∧ Rdy d ∧ (d.safe.length : Int) = c.sectors ∧ d.held.length = z.d.held.length + (if z.p.o = 0 then 1 else 0) + 1 + z.bl.length ∧
   d.now = setSecs (if z.p.o = 0 then z.d.now.set (c.at_ z.p.s).toNat (headB z.p) else z.d.now) (c.at_ z.p.s + max z.p.o 1).toNat (rcBytes z.rcd) (1 + z.bl.length) := by
 obtain ⟨d1, e1, r1, l1, n1, w1⟩ := begin_go h.cok h.rdy h.len h.s ⟨h.l, hl⟩ h.pp h.m h.o.1
 have hf := h.fit.resolve_left hn
 have hb : behind (max z.p.o 1) z.bl.length = behind z.p.o z.bl.length := by unfold behind; omega
 obtain ⟨d2, e2, r2, l2, n2, w2⟩ := write_go (z := ⟨d1, z.t, { z.p with o := max z.p.o 1 }, z.its, z.bl⟩) (its := z.its) (bl := z.bl) h.cok r1 l1 h.s (by show 1 ≤ max _ _; omega) (h.recMay hl hn) (by show behind (max z.p.o 1) _ ≤ _; rw [hb]; omega)
 refine ⟨d2, ?_, r2, l2, by rw [n2, n1], by rw [w2, w1]; rfl⟩
 unfold Wr.emit
 rw [if_neg (by rw [h.rdy.live.off]; simp), if_neg hn, e1]
 simp only [ne_eq, not_true_eq_false, if_false]
 rw [e2]
 simp only [not_true_eq_false, if_false, hb]
 rfl
theorem Hw.emit0 (h : Hw c z) (hn : z.its = []) : z.emit c = (z, 0) := by
 unfold Wr.emit
 rw [if_neg (by rw [h.rdy.live.off]; simp), if_pos hn]
theorem Hw.turn (h : Hw c z) {s : Int} (hs : 0 ≤ s ∧ s ≤ c.s - 1) (hl : z.p.l ≤ 2147483646) (ho : 1 ≤ z.p.o) :
  ∃ d, z.turn c s = (⟨d, (z.t.touch z.p.s z.p.l).shut z.p.s, ⟨s, 1, z.p.l + 1, (rcSum (nextR z.p s) : Nat), z.p.m⟩, z.its, z.bl⟩, 0) ∧ Rdy d ∧ (d.safe.length : Int) = c.sectors ∧ d.held.length = z.d.held.length + 2 ∧
   d.now = (setSecs z.d.now (c.at_ z.p.s + z.p.o).toNat (rcBytes (nextR z.p s)) 1).set (c.at_ s).toNat (headB (nextP z.p s 0)) := by
 have hs8 := h.cok.2.1
 obtain ⟨k1, _⟩ := nextR_ok (q := z.p) (v := s) h.m ⟨h.l, by omega⟩ h.pp ⟨hs.1, by omega⟩
 have hb : behind z.p.o 0 = z.p.o + 1 := by unfold behind; omega
 have ho2 := h.o.2
 obtain ⟨d1, e1, r1, l1, n1, w1⟩ := write_go (z := z) (its := [⟨7, 0, 0, s⟩]) (bl := []) h.cok h.rdy h.len h.s ho k1 (by show behind _ 0 ≤ _; rw [hb]; omega)
 have hsum : rcSum (nextR z.p s) < 4294967296 := rcSum_lt2 k1
 have hsum2 : rcSum ⟨z.p.m, z.p.l, z.p.p, [⟨7, 0, 0, s⟩], []⟩ = rcSum (nextR z.p s) := rfl
 have hll := h.l
 obtain ⟨d2, e2, r2, l2, n2, w2⟩ := begin_go (z := ⟨d1, (z.t.touch z.p.s z.p.l).shut z.p.s, ⟨s, 0, z.p.l + 1, (rcSum (nextR z.p s) : Nat), z.p.m⟩, z.its, z.bl⟩) h.cok r1 l1 hs ⟨by show 1 ≤ z.p.l + 1; omega, by show z.p.l + 1 ≤ _; omega⟩ ⟨by show (0 : Int) ≤ (rcSum _ : Nat); omega, by show ((rcSum _ : Nat) : Int) ≤ _; omega⟩ h.m (Int.le_refl 0)
 refine ⟨d2, ?_, r2, l2, ?_, ?_⟩
 ·unfold Wr.turn
  rw [e1]
  simp only [ne_eq, not_true_eq_false, if_false, hsum2]
  rw [e2]
  rfl
 ·rw [n2]
  show d1.held.length + 1 = _
  rw [n1]
  rfl
 ·rw [w2]
  show d1.now.set _ _ = _
  rw [w1]
  rfl
/-- an item more -/
def Wr.put (z : Wr) (i : It) (b : List UInt8) : Wr := { z with its := z.its ++ [i], bl := z.bl ++ (if i.loaded = true then [b] else []) }
def Wr.vok (i : It) (b : List UInt8) : Prop := i.may = true ∧ i.k ≠ 7 ∧ b.length = (if i.loaded = true then 64 else 0)
def nbl (i : It) : Nat := if i.loaded = true then 1 else 0
theorem add_eq (hv : Wr.vok i b) (hoff : z.d.off = false) (sp : Bool) : z.add c i b sp = if (z.room c (nbl i) sp).2 ≠ 0 then ((z.room c (nbl i) sp).1, 0, (z.room c (nbl i) sp).2) else ((z.room c (nbl i) sp).1.put i b, (if i.loaded = true then Wr.first c (z.room c (nbl i) sp).1 + ((z.room c (nbl i) sp).1.bl.length : Int) else 0), 0) := by
 obtain ⟨v1, v2, v3⟩ := hv
 unfold Wr.add nbl Wr.put
 rw [if_neg (by rw [v1, decide_eq_true v2, decide_eq_true v3]; simp), if_neg (by rw [hoff]; simp)]
 cases hld : i.loaded <;> simp
theorem put_ok (h : Hw c z) (hv : Wr.vok i b) (h6 : z.its.length + 1 ≤ 6) (hf : behind z.p.o (z.bl.length + nbl i) ≤ c.l - 1) : Hw c (z.put i b) := by
 obtain ⟨v1, v2, v3⟩ := hv
 have hbl : (z.put i b).bl.length = z.bl.length + nbl i := by
  unfold Wr.put nbl
  cases i.loaded <;> simp
 refine { cok := h.cok, rdy := h.rdy, len := h.len, s := h.s, o := h.o, l := h.l, pp := h.pp, m := h.m, may := ?_, k7 := ?_, ld := ?_, f64 := ?_, six := ?_, fit := .inr ?_ }
 ·show (z.its ++ [i]).all It.may = true
  rw [List.all_append, h.may]
  simp [v1]
 ·intro x hx
  rcases List.mem_append.1 hx with hx | hx
  ·exact h.k7 x hx
  ·rw [List.mem_singleton.1 hx]; exact v2
 ·rw [hbl, h.ld]
  show _ = loads (z.its ++ [i])
  unfold loads nbl
  rw [List.filter_append, List.length_append]
  cases hld : i.loaded <;> simp [hld]
 ·show full64 (z.bl ++ _) = true
  have := h.f64
  unfold full64 at this ⊢
  rw [List.all_append, this]
  cases hld : i.loaded
  ·rfl
  ·rw [hld] at v3
   simp [v3]
 ·show (z.its ++ [i]).length ≤ 6
  simpa using h6
 ·rw [hbl]
  exact hf
end
end Go.Kn
namespace Go.Kn
open Go Go.RowKit
/-- the segments' states -/
def Tb.sts (t : Tb) : List Int := t.us.map Us.st
section
variable {t : Tb} {s : Int}
theorem sts_len : t.sts.length = t.us.length := by unfold Tb.sts; simp
theorem use_st (t : Tb) (s : Int) : (t.use s).st = t.sts.getD s.toNat 0 := by
 unfold Tb.use Tb.sts
 rw [List.getD_eq_getElem?_getD, List.getD_eq_getElem?_getD, List.getElem?_map]
 cases t.us[s.toNat]? <;> rfl
theorem set_self {l : List Int} {i : Nat} : l.set i (l.getD i 0) = l := by
 apply List.ext_getElem?
 intro k
 rw [List.getElem?_set]
 split
 ·rename_i h
  subst h
  split
  ·rename_i h2
   rw [List.getD_eq_getElem?_getD, List.getElem?_eq_getElem h2]
   rfl
  ·rename_i h2
   rw [List.getElem?_eq_none (by omega)]
 ·rfl
theorem sts_touch (t : Tb) (s x : Int) : (t.touch s x).sts = t.sts := by
 unfold Tb.touch
 split
 ·show List.map Us.st (t.us.set s.toNat ⟨(t.use s).st, x⟩) = _
  rw [List.map_set]
  show t.sts.set s.toNat (t.use s).st = t.sts
  rw [use_st, set_self]
 ·rfl
theorem hasS_iff : t.has s = true ↔ 0 ≤ s ∧ s < t.sts.length := by
 unfold Tb.has
 rw [sts_len]
 exact decide_eq_true_iff
theorem sts_grab (h : 0 ≤ s ∧ s < t.sts.length) : (t.grab s).sts = if t.sts.getD s.toNat 0 = 0 then t.sts.set s.toNat 1 else t.sts := by
 unfold Tb.grab Tb.grabs
 rw [hasS_iff.2 h, use_st]
 by_cases h0 : t.sts.getD s.toNat 0 = 0
 ·rw [if_pos h0, if_pos (by simp only [h0]; rfl)]
  show List.map Us.st (t.us.set _ _) = _
  rw [List.map_set]
  rfl
 ·rw [if_neg h0, if_neg (by rw [Bool.true_and, decide_eq_true_eq]; exact h0)]
theorem sts_shut (h : 0 ≤ s ∧ s < t.sts.length) : (t.shut s).sts = if t.sts.getD s.toNat 0 = 1 then t.sts.set s.toNat 2 else t.sts := by
 unfold Tb.shut
 rw [hasS_iff.2 h, use_st]
 by_cases h0 : t.sts.getD s.toNat 0 = 1
 ·rw [if_pos h0, if_pos (by simp only [h0]; rfl)]
  show List.map Us.st (t.us.set _ _) = _
  rw [List.map_set]
  rfl
 ·rw [if_neg h0, if_neg (by rw [Bool.true_and, decide_eq_true_eq]; exact h0)]
def fr0 (x : Int) : Bool := decide (x = 0)
theorem free_sts (t : Tb) : t.free = t.sts.countP fr0 := by
 unfold Tb.free Tb.sts
 rw [List.countP_map]
 rfl
theorem idx_sts (l : List Us) : Tb.idx l = match (l.map Us.st).findIdx? fr0 with
  | some i => (i : Nat)
  | none => -1 := by
 unfold Tb.idx
 rw [List.findIdx?_map]
 rfl
theorem idx_some {k : Nat} (h : Tb.idx t.us = (k : Nat)) : k < t.sts.length ∧ t.sts.getD k 0 = 0 := by
 rw [idx_sts] at h
 cases hf : (t.us.map Us.st).findIdx? fr0 with
 | none => rw [hf] at h; simp only at h; omega
 | some i =>
  rw [hf] at h
  simp only at h
  obtain rfl : i = k := by omega
  obtain ⟨h1, h2, _⟩ := List.findIdx?_eq_some_iff_getElem.1 hf
  refine ⟨h1, ?_⟩
  rw [List.getD_eq_getElem?_getD]
  show ((t.us.map Us.st)[i]?).getD 0 = 0
  rw [List.getElem?_eq_getElem h1]
  unfold fr0 at h2
  simpa using h2
theorem idx_free (h : t.free ≠ 0) : ∃ k : Nat, Tb.idx t.us = (k : Nat) := by
 rw [free_sts] at h
 rw [idx_sts]
 cases hf : (t.us.map Us.st).findIdx? fr0 with
 | none =>
  have := List.findIdx?_eq_none_iff.1 hf
  exact absurd (List.countP_eq_zero.2 fun x hx => by rw [this x hx]; simp) h
 | some i => exact ⟨i, rfl⟩
theorem live_ok {n : Nat} (h : t.Ok n) : t.sts.length = n := by rw [sts_len]; exact h.u
end
section
variable {c : Cf} {z : Wr} {i : It} {b : List UInt8} {n : Nat} {sp : Bool}
theorem fits_iff {o : Int} {k m : Nat} : Wr.fits c o k m = true ↔ k ≤ 6 ∧ behind o m < c.l := by
 unfold Wr.fits
 rw [Bool.and_eq_true, decide_eq_true_iff, decide_eq_true_iff]
/-- where a block of the next item will lie -/
def Wr.at_ (c : Cf) (z : Wr) (i : It) : Int := if i.loaded = true then Wr.first c z + (z.bl.length : Int) else 0
theorem add_fit (h : Hw c z) (hv : Wr.vok i b) (h6 : z.its.length + 1 ≤ 6) (hf : behind z.p.o (z.bl.length + nbl i) < c.l) : z.add c i b sp = (z.put i b, z.at_ c i, 0) ∧ Hw c (z.put i b) := by
 have e : z.room c (nbl i) sp = (z, 0) := by
  unfold Wr.room
  exact if_pos (fits_iff.2 ⟨h6, hf⟩)
 refine ⟨?_, put_ok h hv h6 (by omega)⟩
 rw [add_eq hv h.rdy.live.off, e]
 rfl
/-- what waits is emitted, the item waits -/
theorem add_emit (h : Hw c z) (hv : Wr.vok i b) (hl : z.p.l ≤ 2147483647) (h1 : ¬ (z.its.length + 1 ≤ 6 ∧ behind z.p.o (z.bl.length + nbl i) < c.l)) (hn : z.its ≠ []) (h2 : behind (behind z.p.o z.bl.length) (nbl i) < c.l) :
  ∃ y, z.emit c = (y, 0) ∧ Hw c y ∧ y.its = [] ∧ y.bl = [] ∧ z.add c i b sp = (y.put i b, y.at_ c i, 0) ∧ Hw c (y.put i b) := by
 obtain ⟨d, e1, e2, e3, _⟩ := h.emit hl hn
 have hr := rcSum_lt2 (h.recMay hl hn)
 have hob := h.o.1
 have hll := h.l
 have hfit := h.fit.resolve_left hn
 have hy : Hw c ⟨d, z.t.touch z.p.s z.p.l, ⟨z.p.s, behind z.p.o z.bl.length, z.p.l + 1, (rcSum z.rcd : Nat), z.p.m⟩, [], []⟩ :=
  { cok := h.cok, rdy := e2, len := e3, s := h.s, o := ⟨by show 0 ≤ behind _ _; unfold behind; omega, hfit⟩, l := by show 1 ≤ z.p.l + 1; omega, pp := ⟨by show (0 : Int) ≤ (rcSum _ : Nat); omega, by show ((rcSum _ : Nat) : Int) ≤ _; omega⟩, m := h.m, may := rfl, k7 := by simp, ld := rfl, f64 := rfl, six := by simp, fit := .inl rfl }
 have hrm : z.room c (nbl i) sp = z.emit c := by
  unfold Wr.room
  rw [if_neg (fun hh => h1 (fits_iff.1 hh)), if_pos (fits_iff.2 ⟨by decide, by rw [if_neg hn]; exact h2⟩)]
 refine ⟨_, e1, hy, rfl, rfl, ?_, put_ok hy hv (by show 0 + 1 ≤ 6; decide) (by show behind (behind _ _) (0 + nbl i) ≤ _; rw [Nat.zero_add]; omega)⟩
 rw [add_eq hv h.rdy.live.off, hrm, e1]
 rfl
theorem add_none (h : Hw c z) (hv : Wr.vok i b) (h1 : ¬ (z.its.length + 1 ≤ 6 ∧ behind z.p.o (z.bl.length + nbl i) < c.l)) (h2 : ¬ behind (if z.its = [] then z.p.o else behind z.p.o z.bl.length) (nbl i) < c.l) (h3 : z.t.takes sp = false) : z.add c i b sp = (z, 0, 6) := by
 have hrm : z.room c (nbl i) sp = (z, 6) := by
  unfold Wr.room
  rw [if_neg (fun hh => h1 (fits_iff.1 hh)), if_neg (fun hh => h2 (fits_iff.1 hh).2), if_neg (by rw [h3]; simp)]
 rw [add_eq hv h.rdy.live.off, hrm]
 rfl
/-- what waits is emitted, the next segment told, the item waits there -/
theorem add_turn (h : Hw c z) (hv : Wr.vok i b) (hl : z.p.l ≤ 2147483645) (h1 : ¬ (z.its.length + 1 ≤ 6 ∧ behind z.p.o (z.bl.length + nbl i) < c.l)) (h2 : ¬ behind (if z.its = [] then z.p.o else behind z.p.o z.bl.length) (nbl i) < c.l) (h3 : z.t.takes sp = true) {k : Nat} (hk : Tb.idx z.t.us = (k : Nat)) (hks : (k : Int) ≤ c.s - 1) :
  ∃ y x, (y = { z with t := z.t.grab k } ∧ z.its = [] ∨ z.its ≠ [] ∧ Wr.emit c { z with t := z.t.grab k } = (y, 0)) ∧ Hw c y ∧ y.its = [] ∧ y.bl = [] ∧ y.p.o = (if z.its = [] then z.p.o else behind z.p.o z.bl.length) ∧ y.p.l ≤ z.p.l + 1 ∧ y.p.s = z.p.s ∧ y.t.sts = (z.t.grab k).sts ∧ y.d.held.length ≤ z.d.held.length + 2 + z.bl.length ∧ y.turn c k = (x, 0) ∧ Hw c x ∧ x.its = [] ∧ x.bl = [] ∧ x.p.o = 1 ∧ x.p.s = k ∧ x.p.l = y.p.l + 1 ∧ x.t = (y.t.touch y.p.s y.p.l).shut y.p.s ∧ x.d.held.length = y.d.held.length + 2 ∧
   z.add c i b sp = (x.put i b, x.at_ c i, 0) ∧ Hw c (x.put i b) := by
 have hcl := h.cok.2.2
 have hn1 : nbl i ≤ 1 := by unfold nbl; split <;> omega
 have hg : Hw c { z with t := z.t.grab k } := { cok := h.cok, rdy := h.rdy, len := h.len, s := h.s, o := h.o, l := h.l, pp := h.pp, m := h.m, may := h.may, k7 := h.k7, ld := h.ld, f64 := h.f64, six := h.six, fit := h.fit }
 have hy : ∃ y, (y = { z with t := z.t.grab k } ∧ z.its = [] ∨ z.its ≠ [] ∧ Wr.emit c { z with t := z.t.grab k } = (y, 0)) ∧ Wr.emit c { z with t := z.t.grab k } = (y, 0) ∧ Hw c y ∧ y.its = [] ∧ y.bl = [] ∧ y.p.o = (if z.its = [] then z.p.o else behind z.p.o z.bl.length) ∧ y.p.l ≤ z.p.l + 1 ∧ y.p.s = z.p.s ∧ y.t.sts = (z.t.grab k).sts ∧ y.d.held.length ≤ z.d.held.length + 2 + z.bl.length := by
  by_cases hn : z.its = []
  ·have hb : z.bl = [] := List.length_eq_zero_iff.1 (by rw [h.ld, hn]; rfl)
   exact ⟨_, .inl ⟨rfl, hn⟩, hg.emit0 hn, hg, hn, hb, by rw [if_pos hn], by show z.p.l ≤ z.p.l + 1; omega, rfl, rfl, by show z.d.held.length ≤ _; omega⟩
  ·obtain ⟨d, e1, e2, e3, e4, _⟩ := hg.emit (by show z.p.l ≤ _; omega) hn
   have hr := rcSum_lt2 (h.recMay (by omega) hn)
   have hr2 : rcSum ({ z with t := z.t.grab k } : Wr).rcd < 4294967296 := hr
   have hob := h.o.1
   have hll := h.l
   have hfit := h.fit.resolve_left hn
   refine ⟨_, .inr ⟨hn, e1⟩, e1, { cok := h.cok, rdy := e2, len := e3, s := h.s, o := ⟨by show 0 ≤ behind _ _; unfold behind; omega, hfit⟩, l := by show 1 ≤ z.p.l + 1; omega, pp := ⟨by show (0 : Int) ≤ (rcSum _ : Nat); omega, by show ((rcSum _ : Nat) : Int) ≤ _; omega⟩, m := h.m, may := rfl, k7 := by simp, ld := rfl, f64 := rfl, six := by simp, fit := .inl rfl }, rfl, rfl, by rw [if_neg hn], Int.le_refl _, rfl, ?_, ?_⟩
   ·show ((z.t.grab k).touch z.p.s z.p.l).sts = _
    rw [sts_touch]
   ·show d.held.length ≤ _
    rw [e4]
    show z.d.held.length + (if z.p.o = 0 then 1 else 0) + 1 + z.bl.length ≤ _
    split <;> omega
 obtain ⟨y, y1, y2, y3, y4, y5, y6, y7, y8, y9, y10⟩ := hy
 have ho : 1 ≤ y.p.o := by
  rw [← y6] at h2
  unfold behind at h2
  omega
 obtain ⟨d, e1, e2, e3, e4, _⟩ := y3.turn (s := (k : Int)) ⟨by omega, hks⟩ (by omega) ho
 have hr2 : rcSum (nextR y.p k) < 4294967296 := rcSum_lt2 (nextR_ok (q := y.p) (v := k) y3.m ⟨y3.l, by omega⟩ y3.pp ⟨by omega, by have := h.cok.2.1; omega⟩).1
 have hyl := y3.l
 have hx : Hw c ⟨d, (y.t.touch y.p.s y.p.l).shut y.p.s, ⟨k, 1, y.p.l + 1, (rcSum (nextR y.p k) : Nat), y.p.m⟩, y.its, y.bl⟩ :=
  { cok := h.cok, rdy := e2, len := e3, s := ⟨by show (0 : Int) ≤ k; omega, hks⟩, o := ⟨by show (0 : Int) ≤ 1; decide, by show (1 : Int) ≤ _; omega⟩, l := by show 1 ≤ y.p.l + 1; omega, pp := ⟨by show (0 : Int) ≤ (rcSum _ : Nat); omega, by show ((rcSum _ : Nat) : Int) ≤ _; omega⟩, m := y3.m, may := y3.may, k7 := y3.k7, ld := y3.ld, f64 := y3.f64, six := y3.six, fit := .inl y4 }
 have hrm : z.room c (nbl i) sp = (⟨d, (y.t.touch y.p.s y.p.l).shut y.p.s, ⟨k, 1, y.p.l + 1, (rcSum (nextR y.p k) : Nat), y.p.m⟩, y.its, y.bl⟩, 0) := by
  unfold Wr.room
  rw [if_neg (fun hh => h1 (fits_iff.1 hh)), if_neg (fun hh => h2 (fits_iff.1 hh).2), if_pos ⟨h3, by rw [hk]; omega⟩, hk, y2]
  simp only [ne_eq, not_true_eq_false, if_false]
  exact e1
 refine ⟨y, _, y1, y3, y4, y5, y6, y7, y8, y9, y10, e1, hx, y4, y5, rfl, rfl, rfl, rfl, e4, ?_, put_ok hx hv (by show y.its.length + 1 ≤ 6; rw [y4]; decide) (by show behind 1 (y.bl.length + nbl i) ≤ _; rw [y5]; show behind 1 (0 + nbl i) ≤ _; unfold behind; omega)⟩
 rw [add_eq hv h.rdy.live.off, hrm]
 rfl
end
/-- a busy segment -/
def tbStep (n ps : Int) (t : Tb) (x : Int) : Tb := if x % n = ps then t.grab (x % n) else (t.grab (x % n)).shut (x % n)
def tbMade (n : Nat) (c : Cf) (ps : Int) (busy : List Int) : Tb := busy.foldl (tbStep c.s ps) ((Tb.new n).grab (ps % c.s))
theorem tbStep_ok {t : Tb} {n : Nat} (h : t.Ok n) (m ps x : Int) : (tbStep m ps t x).Ok n := by
 unfold tbStep
 split
 ·exact h.grab _
 ·exact (h.grab _).shut _
theorem tbFold_ok {n : Nat} (m ps : Int) : ∀ (l : List Int) (t : Tb), t.Ok n → (l.foldl (tbStep m ps) t).Ok n
 | [], t, h => h
 | x :: l, t, h => tbFold_ok m ps l _ (tbStep_ok h m ps x)
theorem tbMade_ok (n : Nat) (c : Cf) (ps : Int) (busy : List Int) : (tbMade n c ps busy).Ok n := tbFold_ok _ _ _ _ ((Tb.new_ok n).grab _)
end Go.Kn
namespace Go.Proofs.YtgcfdjcpcclcjaaGreat
open Go Go.RowKit Go.Kn
/-- the box of both writers -/
def ZBx (p : PD) (r : RD) (gb : Nat) (c : Cf) (q : TD) (u : RT) (w x : Value) : List Value := [.pointer (some ⟨p.D, 0, none⟩), .pointer (some ⟨r.M, 0, none⟩), .pointer (some ⟨gb, 0, none⟩), .int .i64 c.b, .int .i64 c.s, .int .i64 c.l, .pointer (some ⟨q.T, 0, none⟩), .pointer (some ⟨u.T, 0, none⟩), w, x]
/-- what made leaves -/
def MdIn (w0 w' : World) (p : PD) (r : RD) (gb : Nat) (cf : Cf) (q : TD) (u : RT) (Z : Nat) (N : Nat) (t : Tb) (ps : Ps) (fr : Fr3) : Bool → Prop
 | true => ∃ W X, WrIn w0 w' p r (Dk.new N) W gb q ⟨Dk.new N, t, ps, [], []⟩ ((Z, ZBx p r gb cf q u (.pointer (some ⟨W, 0, none⟩)) (.pointer (some ⟨X, 0, none⟩))) :: (X, XB r u cf ps (.slice none 0 0) (.slice none 0 0)) :: u.L cf t fr.L) fr.G ((fun W => GeoAt W gb cf.b cf.s cf.l) :: fr.F)
 | false => Duo w0 w' p r (Dk.new N) (Dk.new N) ⟨(Z, ZBx p r gb cf q u (.pointer none) (.pointer none)) :: q.L t (u.L cf t fr.L), fr.G, (fun W => GeoAt W gb cf.b cf.s cf.l) :: fr.F⟩
def MdSays (w0 : World) (cf : Cf) (n : Nat) (ps : Ps) (busy : List Int) (fr : Fr3) (en : Ending) (w' : World) : Prop :=
 ∃ (p : PD) (r : RD) (gb : Nat) (q : TD) (u : RT) (Z : Nat), en = .returned (.tuple #[.pointer (some ⟨Z, 0, none⟩), .bool true]) ∧ q.n = n ∧ u.n = n ∧ p.N = cf.sectors.toNat ∧ r.N = cf.sectors.toNat ∧ MdIn w0 w' p r gb cf q u Z cf.sectors.toNat (tbMade n cf ps.s busy) ps fr (posMay cf.s cf.l ps.s ps.o ps.l ps.p ps.m)
set_option maxRecDepth 100000 in
set_option maxHeartbeats 16000000 in
theorem made_any (w0 w : World) (cf : Cf) (ps : Ps) (A : Option Addr) (m c : Nat) (busy : List Int) (fr : Fr3) (n : Nat) (h : Wc w0 w fr.L fr.G fr.F) (hc : cf.Ok) (hn : cf.s = (n : Int)) (hb : (fun W => Ins W A m c busy) ∈ fr.F) (hm : m ≤ 1000) (hwf : (Lit.int .i64 ps.s).wf = true) (hbw : ∀ x ∈ busy, (Lit.int .i64 x).wf = true) :
  Calls Tryz.prog 40 #[.agg #[.int .i64 cf.b, .int .i64 cf.s, .int .i64 cf.l], .agg #[.int .i64 ps.s, .int .i64 ps.o, .int .i64 ps.l, .int .i64 ps.p, .int .i64 ps.m], .slice A m c] w (MdSays w0 cf n ps busy fr) := by
 have hs1 : (w.alloc (.cells #[.int .i64 cf.b, .int .i64 cf.s, .int .i64 cf.l] 25)).heap.size = w.heap.size + 1 := by simp
 have H := Lib.hid ((h.newB #[.int .i64 cf.b, .int .i64 cf.s, .int .i64 cf.l] 25 rfl).newB #[.int .i64 ps.s, .int .i64 ps.o, .int .i64 ps.l, .int .i64 ps.p, .int .i64 ps.m] 32 hs1)
 obtain ⟨g1, g2, g3⟩ := Cf.sec cf hc 0 (by decide) (by have := hc.2.1; omega)
 have hl := hc.2.2
 have hs8 := hc.2.1
 have HC := Lib.hid hc
 have HNZ := Lib.hid hn
 have HB := Lib.hid hb
 have HWF := Lib.hid hwf
 have HBW := Lib.hid hbw
 obtain ⟨N, hN⟩ : ∃ n : Nat, cf.sectors.toNat = n := ⟨_, rfl⟩
 have hsn : cf.sectors = (N : Int) := by omega
 have hbl : busy.length = m := by
  have := (h.fact _ hb).len
  rwa [ivs, List.length_map] at this
 have HBL := Lib.hid hbl
 have HN := Lib.hid hN
 have HSN := Lib.hid hsn
 obtain ⟨hn1, hn2⟩ : 1 ≤ N ∧ N ≤ 4096 := by omega
 have hn32 : n ≤ 32 := by omega
 clear h hc hN hsn g1 g2 g3 hn hb hwf hbw hbl
 go_enter Tryz.func40, Tryz.ntmps40
 go_wp2_with fail
 (try rw [hs1])
 generalize hz : (w.alloc (.cells #[.int .i64 cf.b, .int .i64 cf.s, .int .i64 cf.l] 25)).alloc (.cells #[.int .i64 ps.s, .int .i64 ps.o, .int .i64 ps.l, .int .i64 ps.p, .int .i64 ps.m] 32) = w1 at *
 generalize w.heap.size = f3 at *
 generalize f3 + 1 = f4 at *
 clear hz hs1
 refine (geom_new_any cf.b cf.s cf.l _ HC.out).mono ?_
 rintro en w2 ⟨gb, rfl, hgb, hgeo, hO⟩
 have hfc : Fc w2 (fun k => k < w1.heap.size) (fun W => GeoAt W gb cf.b cf.s cf.l) := fc_geo hgeo (by omega)
 have HW := Lib.hid (H.out.addFc hO hfc)
 clear hgb hgeo hO hfc H
 obtain ⟨e0, e1, e2⟩ := own3 (HW.out.boxi 1 rfl)
 go_wp2_with fail
 refine (ref_sectors_any cf _ HC.out).mono ?_
 rintro en w4 ⟨rfl, hO⟩
 rw [HSN.out]
 have HW2 := Lib.hid (HW.out.keep0 hO)
 clear hO HW e0 e1 e2
 go_wp2_with fail
 refine (kit_two_any w0 w4 N ⟨(f4, [.int .i64 ps.s, .int .i64 ps.o, .int .i64 ps.l, .int .i64 ps.p, .int .i64 ps.m]) :: (f3, [.int .i64 cf.b, .int .i64 cf.s, .int .i64 cf.l]) :: fr.L, fr.G, (fun W => GeoAt W gb cf.b cf.s cf.l) :: fr.F⟩ HW2.out hn1 hn2).mono ?_
 rintro en w3 ⟨p, r, rfl, hpn, hrn, hd⟩
 have HD := Lib.hid hd
 have HPN := Lib.hid (hpn.trans HN.out.symm)
 have HRN := Lib.hid (hrn.trans HN.out.symm)
 clear hd HW2 hpn hrn
 go_wp2_with fail
 have HY := Lib.hid HD.out.drew
 clear HD
 refine wp_region_held_drew (S := (fun w' => Kn.Own w' f3 [.int .i64 cf.b, .int .i64 cf.s, .int .i64 cf.l])) (by kernel_rfl) (HY.out.boxi 1 rfl) (fun hSw0 => ?_)
 generalize w3.drew = wz at *
 refine Kn.takeS 0 ⟨some 38, _, _, _, _, _⟩ ?_
 refine Kn.takeS 1 ⟨some 39, _, _, _, _, _⟩ ?_
 refine Kn.takeS 2 ⟨some 40, _, _, _, _, _⟩ ?_
 refine Kn.takeS 3 ⟨some 41, _, _, _, _, _⟩ (v := (.agg #[.int .i64 cf.b, .int .i64 cf.s, .int .i64 cf.l])) (hy := fun w hSw => by
  obtain ⟨q0, q1, q2⟩ := own3 hSw
  go_simp) ?_
 refine Kn.takeS 4 ⟨some 42, _, _, _, _, _⟩ ?_
 refine Kn.takeS 6 ⟨some 44, _, _, _, _, _⟩ (v := (.agg #[.int .i64 cf.b, .int .i64 cf.s, .int .i64 cf.l])) (hy := fun w hSw => by
  obtain ⟨q0, q1, q2⟩ := own3 hSw
  go_simp) ?_
 refine Kn.takeR 5 ⟨some 43, _, _, _, _, _⟩ fun K hK => ?_
 go_simp
 refine (us_new_any w0 _ p r _ _ gb cf _ _ _ HY.out List.mem_cons_self HC.out).mono ?_
 rintro en wq ⟨q, rfl, hqn, hd⟩
 have HQN := Lib.hid hqn
 have HYq := Lib.hid hd
 clear hd hqn HY
 refine hK.out _ _ (HYq.out.boxi 4 rfl) (fun hSn => ?_)
 clear hK K hSw0
 have hSw0 := hSn
 clear hSn
 refine Kn.takeR 7 ⟨some 45, _, _, _, _, _⟩ fun K hK => ?_
 go_simp
 refine (rt_new_any w0 _ p r _ _ cf _ _ _ HYq.out HC.out).mono ?_
 rintro en wu ⟨u, rfl, hun, hd⟩
 have HUN := Lib.hid hun
 have HYqu := Lib.hid hd
 clear hd hun HYq
 refine hK.out _ _ (HYqu.out.boxi 7 rfl) (fun hSn => ?_)
 clear hK K hSw0
 have hSw0 := hSn
 clear hSn
 refine Kn.takeS 8 ⟨some 46, _, _, _, _, _⟩ ?_
 refine Kn.takeR 9 ⟨some 47, _, _, _, _, _⟩ fun K hK => ?_
 go_simp
 have HYquz := Lib.hid (HYqu.out.newB #[.pointer (some ⟨p.D, 0, none⟩), .pointer (some ⟨r.M, 0, none⟩), .pointer (some ⟨gb, 0, none⟩), .int .i64 cf.b, .int .i64 cf.s, .int .i64 cf.l, .pointer (some ⟨q.T, 0, none⟩), .pointer (some ⟨u.T, 0, none⟩), .pointer none, .pointer none] 95 (b := wu.heap.size) rfl)
 clear HYqu
 generalize hvz : wu.heap.size = Z at *
 generalize hvb : wu.alloc (.cells #[.pointer (some ⟨p.D, 0, none⟩), .pointer (some ⟨r.M, 0, none⟩), .pointer (some ⟨gb, 0, none⟩), .int .i64 cf.b, .int .i64 cf.s, .int .i64 cf.l, .pointer (some ⟨q.T, 0, none⟩), .pointer (some ⟨u.T, 0, none⟩), .pointer none, .pointer none] 95) = vz at *
 clear hvb hvz
 refine hK.out _ _ (HYquz.out.boxi 8 rfl) (fun hSn => ?_)
 clear hK K hSw0
 have hSw0 := hSn
 clear hSn
 refine Kn.takeS 10 ⟨some 13, _, _, _, _, _⟩ ?_
 refine wpAnyH_done (by kernel_rfl) ?_ _
 clear hSw0
 have hqe : q.n = n := by have := HQN.out; have := HNZ.out; omega
 have hue : u.n = n := by have := HUN.out; have := HNZ.out; omega
 have hqn : q.n ≤ 1000 := by omega
 have hun : u.n ≤ 1000 := by omega
 have hz0 : Duo w0 vz p r (Dk.new N) (Dk.new N) ⟨(Z, (ZBx p r gb cf q u (.pointer none) (.pointer none))) :: _, _, _⟩ := HYquz.out
 rw [hqe, hue] at hz0
 have HZ : Hid (Duo w0 vz p r (Dk.new N) (Dk.new N) ⟨q.L (Tb.new n) (u.L cf (Tb.new n) ((Z, (ZBx p r gb cf q u (.pointer none) (.pointer none))) :: (f4, [.int .i64 ps.s, .int .i64 ps.o, .int .i64 ps.l, .int .i64 ps.p, .int .i64 ps.m]) :: (f3, [.int .i64 cf.b, .int .i64 cf.s, .int .i64 cf.l]) :: fr.L)), fr.G, (fun W => GeoAt W gb cf.b cf.s cf.l) :: fr.F⟩) := Lib.hid (hz0.permL (perm_any (fun c => by simp only [TD.L, RT.L, List.map_cons, List.sum_cons]; omega)))
 clear HQN HUN
 have HQN := Lib.hid hqe
 have HUN := Lib.hid hue
 have HTO : Hid (∀ k, k = n → (Tb.new n).Ok k) := Lib.hid (fun k hk => by rw [hk]; exact Tb.new_ok n)
 clear hz0 hqe hue HYquz
 have HTO0 := HTO
 clear HTO
 have HTO := Lib.hid (HTO0.out q.n HQN.out)
 have c6 := (HZ.out.boxi 6 rfl).cellv 6
 go_wp2_with fail
 clear c6
 have HY := Lib.hid HZ.out.drew
 clear HZ
 refine wp_region_held_drew (S := (fun w' => Kn.Own w' Z (ZBx p r gb cf q u (.pointer none) (.pointer none)) ∧ Kn.Own w' f4 [.int .i64 ps.s, .int .i64 ps.o, .int .i64 ps.l, .int .i64 ps.p, .int .i64 ps.m] ∧ Kn.Own w' f3 [.int .i64 cf.b, .int .i64 cf.s, .int .i64 cf.l])) (by kernel_rfl) ⟨HY.out.boxi 6 rfl, HY.out.boxi 7 rfl, HY.out.boxi 8 rfl⟩ (fun hSw0 => ?_)
 generalize vz.drew = wz at *
 refine Kn.takeS 0 ⟨some 53, _, _, _, _, _⟩ ?_
 refine Kn.takeS 1 ⟨some 54, _, _, _, _, _⟩ ?_
 refine Kn.takeS 2 ⟨some 55, _, _, _, _, _⟩ ?_
 refine Kn.takeS 3 ⟨some 56, _, _, _, _, _⟩ (v := (.pointer (some ⟨q.T, 0, none⟩))) (hy := fun w hSw => by
  have q0 := hSw.1.cellv 6
  go_simp) ?_
 refine Kn.takeS 4 ⟨some 57, _, _, _, _, _⟩ ?_
 refine Kn.takeS 5 ⟨some 58, _, _, _, _, _⟩ (v := (.int .i64 ps.s)) (hy := fun w hSw => by
  have q0 := hSw.2.1.cellv 0
  go_simp) ?_
 refine Kn.takeS 6 ⟨some 59, _, _, _, _, _⟩ ?_
 refine Kn.takeS 7 ⟨some 60, _, _, _, _, _⟩ (v := (.int .i64 cf.s)) (hy := fun w hSw => by
  have q0 := hSw.2.2.cellv 1
  go_simp) ?_
 refine Kn.takeR 8 ⟨some 61, _, _, _, _, _⟩ fun K hK => ?_
 go_simp
 refine (round_any ps.s cf.s _ HWF.out (by omega) (by omega)).mono ?_
 rintro en wu ⟨rfl, rfl⟩
 refine hK.out _ _ hSw0 (fun hSn => ?_)
 clear hK K hSw0
 have hSw0 := hSn
 clear hSn
 refine Kn.takeR 9 ⟨some 62, _, _, _, _, _⟩ fun K hK => ?_
 go_simp
 refine (duo_grab (ps.s % cf.s) HY.out HTO.out hqn).mono ?_
 rintro en wg ⟨rfl, hd⟩
 have HYg := Lib.hid hd
 clear hd HY
 refine hK.out _ _ ⟨HYg.out.boxi 6 rfl, HYg.out.boxi 7 rfl, HYg.out.boxi 8 rfl⟩ (fun hSn => ?_)
 clear hK K hSw0
 have hSw0 := hSn
 clear hSn
 refine wpAnyH_done (by kernel_rfl) ?_ _
 clear hSw0 HTO
 have HTO := Lib.hid (HTO0.out u.n HUN.out)
 go_wp2_with fail
 have HX := Lib.hid HYg.out.drew
 clear HYg
 refine wp_region_held_drew (S := (fun w' => Kn.Own w' Z (ZBx p r gb cf q u (.pointer none) (.pointer none)) ∧ Kn.Own w' f4 [.int .i64 ps.s, .int .i64 ps.o, .int .i64 ps.l, .int .i64 ps.p, .int .i64 ps.m] ∧ Kn.Own w' f3 [.int .i64 cf.b, .int .i64 cf.s, .int .i64 cf.l])) (by kernel_rfl) ⟨HX.out.boxi 6 rfl, HX.out.boxi 7 rfl, HX.out.boxi 8 rfl⟩ (fun hSw0 => ?_)
 generalize wg.drew = wy at *
 refine Kn.takeS 0 ⟨some 63, _, _, _, _, _⟩ ?_
 refine Kn.takeS 1 ⟨some 64, _, _, _, _, _⟩ ?_
 refine Kn.takeS 2 ⟨some 65, _, _, _, _, _⟩ ?_
 refine Kn.takeS 3 ⟨some 66, _, _, _, _, _⟩ (v := (.pointer (some ⟨u.T, 0, none⟩))) (hy := fun w hSw => by
  have q0 := hSw.1.cellv 7
  go_simp) ?_
 refine Kn.takeS 4 ⟨some 67, _, _, _, _, _⟩ ?_
 refine Kn.takeS 5 ⟨some 68, _, _, _, _, _⟩ (v := (.int .i64 ps.s)) (hy := fun w hSw => by
  have q0 := hSw.2.1.cellv 0
  go_simp) ?_
 refine Kn.takeS 6 ⟨some 69, _, _, _, _, _⟩ ?_
 refine Kn.takeS 7 ⟨some 70, _, _, _, _, _⟩ (v := (.int .i64 cf.s)) (hy := fun w hSw => by
  have q0 := hSw.2.2.cellv 1
  go_simp) ?_
 refine Kn.takeR 8 ⟨some 71, _, _, _, _, _⟩ fun K hK => ?_
 go_simp
 refine (round_any ps.s cf.s _ HWF.out (by omega) (by omega)).mono ?_
 rintro en wu ⟨rfl, rfl⟩
 refine hK.out _ _ hSw0 (fun hSn => ?_)
 clear hK K hSw0
 have hSw0 := hSn
 clear hSn
 refine Kn.takeR 9 ⟨some 72, _, _, _, _, _⟩ fun K hK => ?_
 go_simp
 refine (duo_rgrab (ps.s % cf.s) (HX.out.permL (L' := u.L cf (Tb.new n) (q.L ((Tb.new n).grab (ps.s % cf.s)) ((Z, (ZBx p r gb cf q u (.pointer none) (.pointer none))) :: (f4, [.int .i64 ps.s, .int .i64 ps.o, .int .i64 ps.l, .int .i64 ps.p, .int .i64 ps.m]) :: (f3, [.int .i64 cf.b, .int .i64 cf.s, .int .i64 cf.l]) :: fr.L))) (perm_any (fun c => by simp only [TD.L, RT.L, List.map_cons, List.sum_cons]; omega))) HTO.out hun).mono ?_
 rintro en wg ⟨rfl, hd⟩
 have HXg : Hid (Duo w0 wg p r (Dk.new N) (Dk.new N) ⟨q.L ((Tb.new n).grab (ps.s % cf.s)) (u.L cf ((Tb.new n).grab (ps.s % cf.s)) ((Z, (ZBx p r gb cf q u (.pointer none) (.pointer none))) :: (f4, [.int .i64 ps.s, .int .i64 ps.o, .int .i64 ps.l, .int .i64 ps.p, .int .i64 ps.m]) :: (f3, [.int .i64 cf.b, .int .i64 cf.s, .int .i64 cf.l]) :: fr.L)), fr.G, (fun W => GeoAt W gb cf.b cf.s cf.l) :: fr.F⟩) := Lib.hid (hd.permL (perm_any (fun c => by simp only [TD.L, RT.L, List.map_cons, List.sum_cons]; omega)))
 clear hd HX
 refine hK.out _ _ ⟨HXg.out.boxi 6 rfl, HXg.out.boxi 7 rfl, HXg.out.boxi 8 rfl⟩ (fun hSn => ?_)
 clear hK K hSw0
 have hSw0 := hSn
 clear hSn
 refine wpAnyH_done (by kernel_rfl) ?_ _
 clear hSw0 HTO
 go_wp2_with fail
 go_loopg [14] m (fun rr s14 wr => ∃ (j : Nat) (tj : Tb), j + rr = m ∧ s14 = .int .i64 (j : Int) ∧ tj = (busy.take j).foldl (tbStep cf.s ps.s) ((Tb.new n).grab (ps.s % cf.s)) ∧ Duo w0 wr p r (Dk.new N) (Dk.new N) ⟨q.L (tj) (u.L cf (tj) ((Z, (ZBx p r gb cf q u (.pointer none) (.pointer none))) :: (f4, [.int .i64 ps.s, .int .i64 ps.o, .int .i64 ps.l, .int .i64 ps.p, .int .i64 ps.m]) :: (f3, [.int .i64 cf.b, .int .i64 cf.s, .int .i64 cf.l]) :: fr.L)), fr.G, (fun W => GeoAt W gb cf.b cf.s cf.l) :: fr.F⟩)
 case atStart => exact ⟨0, _, by omega, rfl, rfl, HXg.out⟩
 obtain ⟨j, tj, hj, rfl, htj, hd⟩ := hrel
 have HR := Lib.hid hd
 have HTJ := Lib.hid htj
 have htok : tj.Ok n := by rw [htj]; exact tbFold_ok _ _ _ _ ((Tb.new_ok n).grab _)
 have HTK := Lib.hid htok
 clear hd htj htok HXg
 by_cases hlt : j < m
 ·have hjl : j < busy.length := by rw [HBL.out]; exact hlt
  have hlt2 : (j : Int) < (m : Int) := by omega
  obtain ⟨x, hx⟩ : ∃ x, busy[j] = x := ⟨_, rfl⟩
  have HXW := Lib.hid (HBW.out x (by rw [← hx]; exact List.getElem_mem hjl))
  obtain ⟨g, o, hA, hc0⟩ := (HR.out.fact (f := (fun W => Ins W A m c busy)) (List.mem_cons_of_mem _ HB.out)).at_ (by omega)
  have HCX : Hid (∀ V : World, Ins V A m c busy → V.cell? ⟨g, o + j, none⟩ = some (.int .i64 x)) := Lib.hid (fun V hV => by
   obtain ⟨g2, o2, hA2, hc2⟩ := hV.at_ (by omega)
   rw [hA] at hA2
   injection hA2 with hA2
   injection hA2 with e1 e2
   subst e1 e2
   have := hc2 j (by rw [ivs, List.length_map]; exact hjl)
   rw [this, ← hx]
   simp [ivs])
  have hst : (busy.take (j + 1)).foldl (tbStep cf.s ps.s) ((Tb.new n).grab (ps.s % cf.s)) = tbStep cf.s ps.s tj x := by
   rw [List.take_succ_eq_append_getElem hjl, List.foldl_append, ← HTJ.out, hx]
   rfl
  have HST := Lib.hid hst
  have HR0 := HR
  clear hx hc0 hst
  subst hA
  go_wp2_with fail
  have HY := Lib.hid HR.out.drew
  clear HR
  refine wp_region_held_drew (S := (fun w' => w'.cell? ⟨g, o + j, none⟩ = some (.int .i64 x) ∧ Kn.Own w' f3 [.int .i64 cf.b, .int .i64 cf.s, .int .i64 cf.l])) (by kernel_rfl) ⟨HCX.out _ ((HR0.out.keep0 (Only.refl _ _).drew).fact (f := (fun W => Ins W (some ⟨g, o, none⟩) m c busy)) (List.mem_cons_of_mem _ HB.out)), HY.out.boxi 8 rfl⟩ (fun hSw0 => ?_)
  generalize wr.drew = wz at *
  refine Kn.takeS 0 ⟨some 79, _, _, _, _, _⟩ ?_
  refine Kn.takeS 1 ⟨some 80, _, _, _, _, _⟩ ?_
  refine Kn.takeS 2 ⟨some 81, _, _, _, _, _⟩ ?_
  refine Kn.takeS 3 ⟨some 82, _, _, _, _, _⟩ (v := (.int .i64 x)) (hy := fun w hSw => by
   have q0 := hSw.1
   go_simp) ?_
  refine Kn.takeS 4 ⟨some 83, _, _, _, _, _⟩ ?_
  refine Kn.takeS 5 ⟨some 84, _, _, _, _, _⟩ (v := (.int .i64 cf.s)) (hy := fun w hSw => by
   have q0 := hSw.2.cellv 1
   go_simp) ?_
  refine Kn.takeR 6 ⟨some 85, _, _, _, _, _⟩ fun K hK => ?_
  go_simp
  refine (round_any x cf.s _ HXW.out (by omega) (by omega)).mono ?_
  rintro en wu ⟨rfl, rfl⟩
  refine hK.out _ _ hSw0 (fun hSn => ?_)
  clear hK K hSw0
  have hSw0 := hSn
  clear hSn
  refine Kn.takeS 7 ⟨some 15, _, _, _, _, _⟩ ?_
  refine wpAnyH_done (by kernel_rfl) ?_ _
  clear hSw0 HR0
  have HQK : Hid (tj.Ok q.n) := Lib.hid (by rw [HQN.out]; exact HTK.out)
  have HUK : Hid (tj.Ok u.n) := Lib.hid (by rw [HUN.out]; exact HTK.out)
  have c6 := (HY.out.boxi 6 rfl).cellv 6
  go_wp2_with fail
  refine (duo_grab (x % cf.s) HY.out HQK.out hqn).mono ?_
  rintro en w5 ⟨rfl, hd⟩
  have HG1 := Lib.hid (hd.permL (L' := u.L cf tj (q.L (tj.grab (x % cf.s)) ((Z, (ZBx p r gb cf q u (.pointer none) (.pointer none))) :: (f4, [.int .i64 ps.s, .int .i64 ps.o, .int .i64 ps.l, .int .i64 ps.p, .int .i64 ps.m]) :: (f3, [.int .i64 cf.b, .int .i64 cf.s, .int .i64 cf.l]) :: fr.L))) (perm_any (fun c => by simp only [TD.L, RT.L, List.map_cons, List.sum_cons]; omega)))
  have c7 := (HG1.out.boxi 6 rfl).cellv 7
  clear hd c6 HY
  go_wp2_with fail
  refine (duo_rgrab (x % cf.s) HG1.out HUK.out hun).mono ?_
  rintro en w6 ⟨rfl, hd⟩
  have HG2 := Lib.hid (hd.permL (L' := q.L (tj.grab (x % cf.s)) (u.L cf (tj.grab (x % cf.s)) ((Z, (ZBx p r gb cf q u (.pointer none) (.pointer none))) :: (f4, [.int .i64 ps.s, .int .i64 ps.o, .int .i64 ps.l, .int .i64 ps.p, .int .i64 ps.m]) :: (f3, [.int .i64 cf.b, .int .i64 cf.s, .int .i64 cf.l]) :: fr.L))) (perm_any (fun c => by simp only [TD.L, RT.L, List.map_cons, List.sum_cons]; omega)))
  have c0 := (HG2.out.boxi 7 rfl).cellv 0
  clear hd c7 HG1
  by_cases hk : x % cf.s = ps.s
  ·have hstep : tbStep cf.s ps.s tj x = tj.grab (x % cf.s) := if_pos hk
   have hne : (x % cf.s != ps.s) = false := by simp [hk]
   have HSTP := Lib.hid hstep
   obtain ⟨y, hy⟩ : ∃ y, x % cf.s = y := ⟨_, rfl⟩
   rw [hy] at hne HG2 HSTP ⊢
   clear hstep hk hy
   go_wp2
   go_roundg (gk - 1)
   case measure => omega
   case rel => exact ⟨j + 1, _, by omega, by go_num, rfl, by rw [HST.out, HSTP.out]; exact HG2.out⟩
  ·have hstep : tbStep cf.s ps.s tj x = (tj.grab (x % cf.s)).shut (x % cf.s) := if_neg hk
   have hne : (x % cf.s != ps.s) = true := by rw [bne_iff_ne]; exact hk
   have HSTP := Lib.hid hstep
   have c6 := (HG2.out.boxi 6 rfl).cellv 6
   obtain ⟨y, hy⟩ : ∃ y, x % cf.s = y := ⟨_, rfl⟩
   have HGQ : Hid ((tj.grab (x % cf.s)).Ok q.n) := Lib.hid (HQK.out.grab _)
   have HGU : Hid ((tj.grab (x % cf.s)).Ok u.n) := Lib.hid (HUK.out.grab _)
   rw [hy] at hne HG2 HSTP HGQ HGU ⊢
   clear hstep hk hy
   go_wp2_with fail
   obtain ⟨L0, G0, F0, hw7, back⟩ := HG2.out.fr
   refine (us_seal_any w0 _ q (tj.grab y) y _ _ _ hw7 HGQ.out hqn).mono ?_
   rintro en w7 ⟨rfl, h7⟩
   have HG3 : Hid (Duo w0 w7 p r (Dk.new N) (Dk.new N) ⟨u.L cf (tj.grab y) (q.L ((tj.grab y).shut y) ((Z, (ZBx p r gb cf q u (.pointer none) (.pointer none))) :: (f4, [.int .i64 ps.s, .int .i64 ps.o, .int .i64 ps.l, .int .i64 ps.p, .int .i64 ps.m]) :: (f3, [.int .i64 cf.b, .int .i64 cf.s, .int .i64 cf.l]) :: fr.L)), fr.G, (fun W => GeoAt W gb cf.b cf.s cf.l) :: fr.F⟩) := Lib.hid ((back w7 ⟨q.L ((tj.grab y).shut y) (u.L cf (tj.grab y) ((Z, (ZBx p r gb cf q u (.pointer none) (.pointer none))) :: (f4, [.int .i64 ps.s, .int .i64 ps.o, .int .i64 ps.l, .int .i64 ps.p, .int .i64 ps.m]) :: (f3, [.int .i64 cf.b, .int .i64 cf.s, .int .i64 cf.l]) :: fr.L)), fr.G, (fun W => GeoAt W gb cf.b cf.s cf.l) :: fr.F⟩ h7).permL (perm_any (fun c => by simp only [TD.L, RT.L, List.map_cons, List.sum_cons]; omega)))
   have c7 := (HG3.out.boxi 6 rfl).cellv 7
   clear h7 hw7 back c6 c0 HG2
   go_wp2_with fail
   refine (duo_rseal y HG3.out HGU.out hun).mono ?_
   rintro en w8 ⟨rfl, hd⟩
   have HG4 : Hid (Duo w0 w8 p r (Dk.new N) (Dk.new N) ⟨q.L ((tj.grab y).shut y) (u.L cf ((tj.grab y).shut y) ((Z, (ZBx p r gb cf q u (.pointer none) (.pointer none))) :: (f4, [.int .i64 ps.s, .int .i64 ps.o, .int .i64 ps.l, .int .i64 ps.p, .int .i64 ps.m]) :: (f3, [.int .i64 cf.b, .int .i64 cf.s, .int .i64 cf.l]) :: fr.L)), fr.G, (fun W => GeoAt W gb cf.b cf.s cf.l) :: fr.F⟩) := Lib.hid (hd.permL (perm_any (fun c => by simp only [TD.L, RT.L, List.map_cons, List.sum_cons]; omega)))
   clear hd c7 HG3
   go_wp2
   go_roundg (gk - 1)
   case measure => omega
   case rel => exact ⟨j + 1, _, by omega, by go_num, rfl, by rw [HST.out, HSTP.out]; exact HG4.out⟩
 ·obtain rfl : j = m := by omega
  have hte : tj = tbMade n cf ps.s busy := by rw [HTJ.out, List.take_of_length_le (by rw [HBL.out]; exact Nat.le_refl _)]; rfl
  obtain ⟨TT, hTT⟩ : ∃ T, tbMade n cf ps.s busy = T := ⟨_, rfl⟩
  rw [hte, hTT] at HR
  have HL := HR
  have HTT := Lib.hid hTT
  have HNE : Hid (cf.sectors.toNat = N ∧ tbMade n cf ps.s busy = TT) := Lib.hid ⟨HN.out, hTT⟩
  obtain ⟨mb, hmb⟩ : ∃ x, posMay cf.s cf.l ps.s ps.o ps.l ps.p ps.m = x := ⟨_, rfl⟩
  have HMB := Lib.hid hmb
  clear hte hTT hmb HTJ HTK HR
  go_wp2_with fail
  cases mb with
  | true =>
   have HY := Lib.hid HL.out.drew
   clear HL
   refine wp_region_held_drew (S := (fun w' => w'.cell? ⟨Z, 6, none⟩ = some (.pointer (some ⟨q.T, 0, none⟩)) ∧ Kn.Own w' f4 [.int .i64 ps.s, .int .i64 ps.o, .int .i64 ps.l, .int .i64 ps.p, .int .i64 ps.m])) (by kernel_rfl) ⟨(HY.out.boxi 6 rfl).cellv 6, HY.out.boxi 7 rfl⟩ (fun hSw0 => ?_)
   generalize wr.drew = wz at *
   refine Kn.takeS 0 ⟨some 114, _, _, _, _, _⟩ ?_
   refine Kn.takeS 1 ⟨some 115, _, _, _, _, _⟩ ?_
   refine Kn.takeS 2 ⟨some 116, _, _, _, _, _⟩ ?_
   refine Kn.takeS 3 ⟨some 117, _, _, _, _, _⟩ ?_
   refine Kn.takeS 4 ⟨some 118, _, _, _, _, _⟩ ?_
   refine Kn.takeS 5 ⟨some 119, _, _, _, _, _⟩ ?_
   refine Kn.takeS 6 ⟨some 120, _, _, _, _, _⟩ (v := (.pointer (some ⟨q.T, 0, none⟩))) (hy := fun w hSw => by
    have q0 := hSw.1
    go_simp) ?_
   refine Kn.takeS 7 ⟨some 121, _, _, _, _, _⟩ (v := (.agg #[.int .i64 ps.s, .int .i64 ps.o, .int .i64 ps.l, .int .i64 ps.p, .int .i64 ps.m])) (hy := fun w hSw => by
    obtain ⟨q0, q1, q2, q3, q4⟩ := own5 hSw.2
    go_simp) ?_
   refine Kn.takeR 8 ⟨some 122, _, _, _, _, _⟩ fun K hK => ?_
   go_simp
   refine (wr_new_any w0 _ p r _ _ gb q _ ps cf _ _ _ HY.out List.mem_cons_self HC.out).mono ?_
   rw [HMB.out]
   rintro en ww ⟨W, rfl, A9, c9, B9, k9, sl9, hd⟩
   have HYw : Hid (Duo w0 ww p r (Dk.new N) (Dk.new N) ⟨(W, WB p.D gb q.T ps (.slice A9 0 c9) (.slice B9 0 k9)) :: q.L (TT) (u.L cf (TT) ((Z, (ZBx p r gb cf q u (.pointer none) (.pointer none))) :: (f4, [.int .i64 ps.s, .int .i64 ps.o, .int .i64 ps.l, .int .i64 ps.p, .int .i64 ps.m]) :: (f3, [.int .i64 cf.b, .int .i64 cf.s, .int .i64 cf.l]) :: fr.L)), ⟨63, 4, .slice A9 0 c9, 0, itsV []⟩ :: ⟨47, 1, .slice B9 0 k9, 0, sl9.map slv⟩ :: fr.G, (fun W => Bls W sl9 []) :: (fun W => GeoAt W gb cf.b cf.s cf.l) :: fr.F⟩) := Lib.hid hd
   clear hd HY
   refine hK.out _ _ ⟨(HYw.out.boxi 7 rfl).cellv 6, HYw.out.boxi 8 rfl⟩ (fun hSn => ?_)
   clear hK K hSw0
   have hSw0 := hSn
   clear hSn
   refine Kn.takeS 9 ⟨some 123, _, _, _, _, _⟩ ?_
   refine Kn.takeS 10 ⟨some 124, _, _, _, _, _⟩ ?_
   refine Kn.takeR 11 ⟨none, _, _, _, _, _⟩ fun K hK => ?_
   have b1 := HYw.out.boxi 7 rfl
   have y9 := b1.cellv 8
   have z9 := b1.frozen 8
   have l9 := b1.lt
   clear b1
   go_simp
   have HYws := Lib.hid (HYw.out.put 7 rfl 8 (.pointer (some ⟨W, 0, none⟩)))
   clear y9 z9 l9 HYw
   refine hK.out _ _ ⟨(HYws.out.boxi 7 rfl).cellv 6, HYws.out.boxi 8 rfl⟩ (fun hSn => ?_)
   clear hK K hSw0
   have hSw0 := hSn
   clear hSn
   refine wpAnyH_done (by kernel_rfl) ?_ _
   clear hSw0
   generalize (ww.setCell ⟨Z, 8, none⟩ (.pointer (some ⟨W, 0, none⟩))) = w8 at *
   go_wp2_with fail
   have HV := Lib.hid HYws.out.drew
   clear HYws
   refine wp_region_held_drew (S := (fun w' => w'.cell? ⟨Z, 7, none⟩ = some (.pointer (some ⟨u.T, 0, none⟩)) ∧ Kn.Own w' f4 [.int .i64 ps.s, .int .i64 ps.o, .int .i64 ps.l, .int .i64 ps.p, .int .i64 ps.m] ∧ Kn.Own w' f3 [.int .i64 cf.b, .int .i64 cf.s, .int .i64 cf.l])) (by kernel_rfl) ⟨(HV.out.boxi 7 rfl).cellv 7, HV.out.boxi 8 rfl, HV.out.boxi 9 rfl⟩ (fun hSw0 => ?_)
   generalize w8.drew = wv at *
   refine Kn.takeS 0 ⟨some 125, _, _, _, _, _⟩ ?_
   refine Kn.takeS 1 ⟨some 126, _, _, _, _, _⟩ ?_
   refine Kn.takeS 2 ⟨some 127, _, _, _, _, _⟩ (v := (.agg #[.int .i64 cf.b, .int .i64 cf.s, .int .i64 cf.l])) (hy := fun w hSw => by
    obtain ⟨q0, q1, q2⟩ := own3 hSw.2.2
    go_simp) ?_
   refine Kn.takeS 3 ⟨some 128, _, _, _, _, _⟩ ?_
   refine Kn.takeS 4 ⟨some 129, _, _, _, _, _⟩ ?_
   refine Kn.takeS 5 ⟨some 130, _, _, _, _, _⟩ ?_
   refine Kn.takeS 6 ⟨some 131, _, _, _, _, _⟩ (v := (.pointer (some ⟨u.T, 0, none⟩))) (hy := fun w hSw => by
    have q0 := hSw.1
    go_simp) ?_
   refine Kn.takeS 7 ⟨some 132, _, _, _, _, _⟩ (v := (.agg #[.int .i64 ps.s, .int .i64 ps.o, .int .i64 ps.l, .int .i64 ps.p, .int .i64 ps.m])) (hy := fun w hSw => by
    obtain ⟨q0, q1, q2, q3, q4⟩ := own5 hSw.2.1
    go_simp) ?_
   refine Kn.takeR 8 ⟨some 133, _, _, _, _, _⟩ fun K hK => ?_
   go_simp
   refine (rw_new_any w0 _ p r _ _ u ps cf _ _ _ HV.out HC.out).mono ?_
   rw [HMB.out]
   rintro en wx ⟨X, rfl, hd⟩
   have HVx := Lib.hid hd
   clear hd HV
   refine hK.out _ _ ⟨(HVx.out.boxi 8 rfl).cellv 7, HVx.out.boxi 9 rfl, HVx.out.boxi 10 rfl⟩ (fun hSn => ?_)
   clear hK K hSw0
   have hSw0 := hSn
   clear hSn
   refine Kn.takeS 9 ⟨some 134, _, _, _, _, _⟩ ?_
   refine Kn.takeS 10 ⟨some 135, _, _, _, _, _⟩ ?_
   refine Kn.takeR 11 ⟨none, _, _, _, _, _⟩ fun K hK => ?_
   have b1 := HVx.out.boxi 8 rfl
   have y9 := b1.cellv 9
   have z9 := b1.frozen 9
   have l9 := b1.lt
   clear b1
   go_simp
   have HVxs := Lib.hid (HVx.out.put 8 rfl 9 (.pointer (some ⟨X, 0, none⟩)))
   clear y9 z9 l9 HVx
   refine hK.out _ _ ⟨(HVxs.out.boxi 8 rfl).cellv 7, HVxs.out.boxi 9 rfl, HVxs.out.boxi 10 rfl⟩ (fun hSn => ?_)
   clear hK K hSw0
   have hSw0 := hSn
   clear hSn
   refine wpAnyH_done (by kernel_rfl) ?_ _
   clear hSw0
   go_wp2
   refine bodyPost_ret (v := .tuple #[.pointer (some ⟨Z, 0, none⟩), .bool true]) (by kernel_rfl) rfl ?_
   refine ⟨p, r, gb, q, u, Z, rfl, HQN.out, HUN.out, HPN.out, HRN.out, ?_⟩
   rw [HMB.out, HNE.out.1, HNE.out.2]
   refine ⟨W, X, A9, c9, B9, k9, sl9, ?_⟩
   have hx := HVxs.out
   dsimp only [List.length_nil]
   refine Duo.ldrop (x := (f4, [.int .i64 ps.s, .int .i64 ps.o, .int .i64 ps.l, .int .i64 ps.p, .int .i64 ps.m])) (Duo.ldrop (x := (f3, [.int .i64 cf.b, .int .i64 cf.s, .int .i64 cf.l])) (Duo.permL hx ?_))
   exact (perm_any (fun c => by simp only [TD.L, RT.L, ZBx, List.set_cons_succ, List.set_cons_zero, List.map_cons, List.sum_cons]; omega))
  | false =>
   have HY := Lib.hid HL.out.drew
   clear HL
   refine wp_region_held_drew (S := (fun w' => w'.cell? ⟨Z, 6, none⟩ = some (.pointer (some ⟨q.T, 0, none⟩)) ∧ Kn.Own w' f4 [.int .i64 ps.s, .int .i64 ps.o, .int .i64 ps.l, .int .i64 ps.p, .int .i64 ps.m])) (by kernel_rfl) ⟨(HY.out.boxi 6 rfl).cellv 6, HY.out.boxi 7 rfl⟩ (fun hSw0 => ?_)
   generalize wr.drew = wz at *
   refine Kn.takeS 0 ⟨some 114, _, _, _, _, _⟩ ?_
   refine Kn.takeS 1 ⟨some 115, _, _, _, _, _⟩ ?_
   refine Kn.takeS 2 ⟨some 116, _, _, _, _, _⟩ ?_
   refine Kn.takeS 3 ⟨some 117, _, _, _, _, _⟩ ?_
   refine Kn.takeS 4 ⟨some 118, _, _, _, _, _⟩ ?_
   refine Kn.takeS 5 ⟨some 119, _, _, _, _, _⟩ ?_
   refine Kn.takeS 6 ⟨some 120, _, _, _, _, _⟩ (v := (.pointer (some ⟨q.T, 0, none⟩))) (hy := fun w hSw => by
    have q0 := hSw.1
    go_simp) ?_
   refine Kn.takeS 7 ⟨some 121, _, _, _, _, _⟩ (v := (.agg #[.int .i64 ps.s, .int .i64 ps.o, .int .i64 ps.l, .int .i64 ps.p, .int .i64 ps.m])) (hy := fun w hSw => by
    obtain ⟨q0, q1, q2, q3, q4⟩ := own5 hSw.2
    go_simp) ?_
   refine Kn.takeR 8 ⟨some 122, _, _, _, _, _⟩ fun K hK => ?_
   go_simp
   refine (wr_new_any w0 _ p r _ _ gb q _ ps cf _ _ _ HY.out List.mem_cons_self HC.out).mono ?_
   rw [HMB.out]
   rintro en ww ⟨rfl, hd⟩
   have HYw : Hid (Duo w0 ww p r (Dk.new N) (Dk.new N) ⟨q.L (TT) (u.L cf (TT) ((Z, (ZBx p r gb cf q u (.pointer none) (.pointer none))) :: (f4, [.int .i64 ps.s, .int .i64 ps.o, .int .i64 ps.l, .int .i64 ps.p, .int .i64 ps.m]) :: (f3, [.int .i64 cf.b, .int .i64 cf.s, .int .i64 cf.l]) :: fr.L)), fr.G, (fun W => GeoAt W gb cf.b cf.s cf.l) :: fr.F⟩) := Lib.hid hd
   clear hd HY
   refine hK.out _ _ ⟨(HYw.out.boxi 6 rfl).cellv 6, HYw.out.boxi 7 rfl⟩ (fun hSn => ?_)
   clear hK K hSw0
   have hSw0 := hSn
   clear hSn
   refine Kn.takeS 9 ⟨some 123, _, _, _, _, _⟩ ?_
   refine Kn.takeS 10 ⟨some 124, _, _, _, _, _⟩ ?_
   refine Kn.takeR 11 ⟨none, _, _, _, _, _⟩ fun K hK => ?_
   have b1 := HYw.out.boxi 6 rfl
   have y9 := b1.cellv 8
   have z9 := b1.frozen 8
   have l9 := b1.lt
   clear b1
   go_simp
   have HYws := Lib.hid (HYw.out.put 6 rfl 8 (.pointer none))
   clear y9 z9 l9 HYw
   refine hK.out _ _ ⟨(HYws.out.boxi 6 rfl).cellv 6, HYws.out.boxi 7 rfl⟩ (fun hSn => ?_)
   clear hK K hSw0
   have hSw0 := hSn
   clear hSn
   refine wpAnyH_done (by kernel_rfl) ?_ _
   clear hSw0
   generalize (ww.setCell ⟨Z, 8, none⟩ (.pointer none)) = w8 at *
   go_wp2_with fail
   have HV := Lib.hid HYws.out.drew
   clear HYws
   refine wp_region_held_drew (S := (fun w' => w'.cell? ⟨Z, 7, none⟩ = some (.pointer (some ⟨u.T, 0, none⟩)) ∧ Kn.Own w' f4 [.int .i64 ps.s, .int .i64 ps.o, .int .i64 ps.l, .int .i64 ps.p, .int .i64 ps.m] ∧ Kn.Own w' f3 [.int .i64 cf.b, .int .i64 cf.s, .int .i64 cf.l])) (by kernel_rfl) ⟨(HV.out.boxi 6 rfl).cellv 7, HV.out.boxi 7 rfl, HV.out.boxi 8 rfl⟩ (fun hSw0 => ?_)
   generalize w8.drew = wv at *
   refine Kn.takeS 0 ⟨some 125, _, _, _, _, _⟩ ?_
   refine Kn.takeS 1 ⟨some 126, _, _, _, _, _⟩ ?_
   refine Kn.takeS 2 ⟨some 127, _, _, _, _, _⟩ (v := (.agg #[.int .i64 cf.b, .int .i64 cf.s, .int .i64 cf.l])) (hy := fun w hSw => by
    obtain ⟨q0, q1, q2⟩ := own3 hSw.2.2
    go_simp) ?_
   refine Kn.takeS 3 ⟨some 128, _, _, _, _, _⟩ ?_
   refine Kn.takeS 4 ⟨some 129, _, _, _, _, _⟩ ?_
   refine Kn.takeS 5 ⟨some 130, _, _, _, _, _⟩ ?_
   refine Kn.takeS 6 ⟨some 131, _, _, _, _, _⟩ (v := (.pointer (some ⟨u.T, 0, none⟩))) (hy := fun w hSw => by
    have q0 := hSw.1
    go_simp) ?_
   refine Kn.takeS 7 ⟨some 132, _, _, _, _, _⟩ (v := (.agg #[.int .i64 ps.s, .int .i64 ps.o, .int .i64 ps.l, .int .i64 ps.p, .int .i64 ps.m])) (hy := fun w hSw => by
    obtain ⟨q0, q1, q2, q3, q4⟩ := own5 hSw.2.1
    go_simp) ?_
   refine Kn.takeR 8 ⟨some 133, _, _, _, _, _⟩ fun K hK => ?_
   go_simp
   refine (rw_new_any w0 _ p r _ _ u ps cf _ _ _ HV.out HC.out).mono ?_
   rw [HMB.out]
   rintro en wx ⟨rfl, hd⟩
   have HVx := Lib.hid hd
   clear hd HV
   refine hK.out _ _ ⟨(HVx.out.boxi 6 rfl).cellv 7, HVx.out.boxi 7 rfl, HVx.out.boxi 8 rfl⟩ (fun hSn => ?_)
   clear hK K hSw0
   have hSw0 := hSn
   clear hSn
   refine Kn.takeS 9 ⟨some 134, _, _, _, _, _⟩ ?_
   refine Kn.takeS 10 ⟨some 135, _, _, _, _, _⟩ ?_
   refine Kn.takeR 11 ⟨none, _, _, _, _, _⟩ fun K hK => ?_
   have b1 := HVx.out.boxi 6 rfl
   have y9 := b1.cellv 9
   have z9 := b1.frozen 9
   have l9 := b1.lt
   clear b1
   go_simp
   have HVxs := Lib.hid (HVx.out.put 6 rfl 9 (.pointer none))
   clear y9 z9 l9 HVx
   refine hK.out _ _ ⟨(HVxs.out.boxi 6 rfl).cellv 7, HVxs.out.boxi 7 rfl, HVxs.out.boxi 8 rfl⟩ (fun hSn => ?_)
   clear hK K hSw0
   have hSw0 := hSn
   clear hSn
   refine wpAnyH_done (by kernel_rfl) ?_ _
   clear hSw0
   go_wp2
   refine bodyPost_ret (v := .tuple #[.pointer (some ⟨Z, 0, none⟩), .bool true]) (by kernel_rfl) rfl ?_
   refine ⟨p, r, gb, q, u, Z, rfl, HQN.out, HUN.out, HPN.out, HRN.out, ?_⟩
   rw [HMB.out, HNE.out.1, HNE.out.2]
   have hx := HVxs.out
   refine Duo.ldrop (x := (f4, [.int .i64 ps.s, .int .i64 ps.o, .int .i64 ps.l, .int .i64 ps.p, .int .i64 ps.m])) (Duo.ldrop (x := (f3, [.int .i64 cf.b, .int .i64 cf.s, .int .i64 cf.l])) (Duo.permL hx ?_))
   exact (perm_any (fun c => by simp only [TD.L, RT.L, ZBx, List.set_cons_succ, List.set_cons_zero, List.map_cons, List.sum_cons]; omega))
end Go.Proofs.YtgcfdjcpcclcjaaGreat
namespace Go.Kn
open Go Go.RowKit
/-- a device of eight short segments -/
def c8 : Cf := ⟨8, 8, 24⟩
theorem c8ok : c8.Ok := ⟨by decide, by decide, by decide⟩
theorem Hw.start {c : Cf} (hc : c.Ok) {p : Ps} (t : Tb) (hp : posMay c.s c.l p.s p.o p.l p.p p.m = true) : Hw c ⟨Dk.new c.sectors.toNat, t, p, [], []⟩ := by
 obtain ⟨g1, g2, g3⟩ := Cf.sec c hc 0 (by decide) (by have := hc.2.1; omega)
 have hl := hc.2.2
 unfold posMay at hp
 simp only [Bool.and_eq_true, decide_eq_true_eq] at hp
 obtain ⟨h1, h2, h3, h4, h5⟩ := hp
 exact { cok := hc, rdy := Rdy.new (by omega) (by omega), len := by simp [Dk.new]; omega, s := h1, o := h2, l := h3.1, pp := h5, m := h4, may := rfl, k7 := by simp, ld := rfl, f64 := rfl, six := by simp, fit := .inl rfl }
def absAdd (o n : Nat) : Option (Nat × Nat) :=
 if n + 1 ≤ 6 ∧ max o 1 + n + 2 < 24 then some (o, n + 1)
 else if max (if n = 0 then o else max o 1 + 1 + n) 1 + 2 < 24 then some ((if n = 0 then o else max o 1 + 1 + n), 1)
 else none
def absEmit (o n : Nat) : Nat × Nat := if n = 0 then (o, n) else (max o 1 + 1 + n, 0)
structure SpI (o n m : Nat) (z : Wr) : Prop where
 h : Hw c8 z
 s : z.p.s = 0
 po : z.p.o = (o : Int)
 ni : z.its.length = n
 bn : z.bl.length = n
 l : z.p.l ≤ 1 + (m : Int)
 held : z.d.held.length ≤ 9 * m
 st : z.t.sts = [1, 2, 2, 2, 2, 2, 0, 0]
 ok : z.t.Ok 8
def spIt (x : Int) : It := ⟨1, x, 0, 0⟩
section
variable {o n m : Nat} {z : Wr} {x : Int} {b : List UInt8}
theorem spIt_may (hx : 0 ≤ x ∧ x ≤ 63) : (spIt x).may = true := (may_k 1 x 0 0).2 (.inl ⟨.inl rfl, hx, rfl, rfl⟩)
theorem spIt_ld (hx : 0 ≤ x ∧ x ≤ 63) : (spIt x).loaded = true := by
 unfold It.loaded
 rw [spIt_may hx]
 rfl
theorem sp_vok (hx : 0 ≤ x ∧ x ≤ 63) (hb : b.length = 64) : Wr.vok (spIt x) b := ⟨spIt_may hx, by show (1 : Int) ≠ 7; decide, by rw [spIt_ld hx, if_pos rfl]; exact hb⟩
theorem SpI.free (h : SpI o n m z) : z.t.free = 2 := by
 rw [free_sts, h.st]
 rfl
theorem SpI.emit (h : SpI o n m z) (hm : m ≤ 200) : (z.emit c8).2 = 0 ∧ SpI (absEmit o n).1 (absEmit o n).2 (m + 1) (z.emit c8).1 := by
 have hlm := h.l
 have hhm := h.held
 unfold absEmit
 by_cases hn : z.its = []
 ·have h0 : n = 0 := by rw [← h.ni, hn]; rfl
  rw [h.h.emit0 hn, if_pos h0]
  exact ⟨rfl, { h := h.h, s := h.s, po := h.po, ni := h.ni, bn := h.bn, l := by push_cast; omega, held := by show z.d.held.length ≤ _; omega, st := h.st, ok := h.ok }⟩
 ·have hne : n ≠ 0 := fun e => hn (List.length_eq_zero_iff.1 (by rw [h.ni, e]))
  obtain ⟨d, e1, e2, e3, e4, _⟩ := h.h.emit (by omega) hn
  have hr := rcSum_lt2 (h.h.recMay (by omega) hn)
  have hll := h.h.l
  have hob := h.h.o.1
  have hfit := h.h.fit.resolve_left hn
  have h6 := h.h.six
  have hbn := h.bn
  have hnn := h.ni
  have ho := h.po
  rw [e1, if_neg hne]
  refine ⟨rfl, { h := { cok := h.h.cok, rdy := e2, len := e3, s := h.h.s, o := ⟨by show 0 ≤ behind _ _; unfold behind; omega, hfit⟩, l := by show 1 ≤ z.p.l + 1; omega, pp := ⟨by show (0 : Int) ≤ (rcSum _ : Nat); omega, by show ((rcSum _ : Nat) : Int) ≤ _; omega⟩, m := h.h.m, may := rfl, k7 := by simp, ld := rfl, f64 := rfl, six := by simp, fit := .inl rfl }, s := h.s, po := ?_, ni := rfl, bn := rfl, l := by show z.p.l + 1 ≤ _; push_cast; omega, held := ?_, st := (sts_touch _ _ _).trans h.st, ok := h.ok.touch _ _ }⟩
  ·show behind z.p.o z.bl.length = _
   unfold behind
   rw [ho, hbn]
   push_cast
   omega
  ·show d.held.length ≤ _
   rw [e4]
   split <;> omega
theorem add_turn_ok {z y w : Wr} {k : Int} (h : Hw c8 z) (hok : z.t.Ok 8) (y1 : y = { z with t := z.t.grab k } ∧ z.its = [] ∨ z.its ≠ [] ∧ Wr.emit c8 { z with t := z.t.grab k } = (y, 0)) (x8 : w.t = (y.t.touch y.p.s y.p.l).shut y.p.s) : w.t.Ok 8 := by
 have hy8 : y.t.Ok 8 := by
  rcases y1 with ⟨rfl, _⟩ | ⟨hn, e⟩
  ·exact hok.grab _
  ·have := (Go.Proofs.YtgcfdjcpcclcjaaGreat.emit_s c8 { z with t := z.t.grab k } h.o.1).2.2.2.1 8 (hok.grab _)
   rw [e] at this
   exact this
 rw [x8]
 exact (hy8.touch _ _).shut _
theorem SpI.add (h : SpI o n m z) (hm : m ≤ 200) (hx : 0 ≤ x ∧ x ≤ 63) (hb : b.length = 64) :
  (absAdd o n = none ∧ z.add c8 (spIt x) b false = (z, 0, 6) ∧ ∃ y, z.add c8 (spIt x) b true = (y, Wr.at_ c8 { y with its := [], bl := [] } (spIt x), 0) ∧ y.t.free = 1 ∧ y.p.s ≠ 0 ∧ y.its.length = 1 ∧ y.t.Ok 8) ∨
   ∃ o' n', absAdd o n = some (o', n') ∧ (z.add c8 (spIt x) b false).2.2 = 0 ∧ SpI o' n' (m + 1) (z.add c8 (spIt x) b false).1 := by
 have hv := sp_vok hx hb
 have hnb : nbl (spIt x) = 1 := by unfold nbl; rw [spIt_ld hx]; rfl
 have hlm := h.l
 have hhm := h.held
 have hll := h.h.l
 have hob := h.h.o.1
 have hbn := h.bn
 have hnn := h.ni
 have ho := h.po
 have h6 := h.h.six
 have hput : ∀ y : Wr, (y.put (spIt x) b).its = y.its ++ [spIt x] ∧ (y.put (spIt x) b).bl = y.bl ++ [b] := by
  intro y
  unfold Wr.put
  rw [spIt_ld hx]
  exact ⟨rfl, rfl⟩
 have hbh : ∀ k : Nat, behind z.p.o k = ((max o 1 + 1 + k : Nat) : Int) := by
  intro k
  unfold behind
  rw [ho]
  push_cast
  omega
 have hcl : c8.l = 24 := rfl
 by_cases h1 : z.its.length + 1 ≤ 6 ∧ behind z.p.o (z.bl.length + nbl (spIt x)) < c8.l
 ·have ha : absAdd o n = some (o, n + 1) := by
   unfold absAdd
   rw [if_pos]
   obtain ⟨a1, a2⟩ := h1
   rw [hbh, hnb, hcl] at a2
   omega
  obtain ⟨e1, e2⟩ := add_fit (sp := false) h.h hv h1.1 h1.2
  refine .inr ⟨o, n + 1, ha, by rw [e1], ?_⟩
  rw [e1]
  obtain ⟨p1, p2⟩ := hput z
  exact { h := e2, s := h.s, po := h.po, ni := by rw [p1]; simp [hnn], bn := by rw [p2]; simp [hbn], l := by show z.p.l ≤ _; push_cast; omega, held := by show z.d.held.length ≤ _; omega, st := h.st, ok := h.ok }
 ·have hA : ¬ (n + 1 ≤ 6 ∧ max o 1 + n + 2 < 24) := by
   intro hh
   apply h1
   rw [hbh, hnb, hcl]
   omega
  by_cases hn : z.its = []
  ·have h0 : n = 0 := by rw [← hnn, hn]; rfl
   have hz0 : z.its.length = 0 := by omega
   have h2 : ¬ behind (if z.its = [] then z.p.o else behind z.p.o z.bl.length) (nbl (spIt x)) < c8.l := by
    rw [if_pos hn, hnb, hbh, hcl]
    omega
   refine .inl ⟨?_, add_none h.h hv h1 h2 (by unfold Tb.takes; rw [h.free]; rfl), ?_⟩
   ·unfold absAdd
    rw [if_neg hA, if_neg (by rw [if_pos h0]; omega)]
   ·have hidx : Tb.idx z.t.us = ((6 : Nat) : Int) := by
     rw [idx_sts, show z.t.us.map Us.st = _ from h.st]
     rfl
    obtain ⟨y, w, y1, y2, y3, y4, y5, y6, y7, y8, y9, x1, x2, x3, x4, x5, x6, x7, x8, x9, x10, x11⟩ := add_turn (sp := true) h.h hv (by omega) h1 h2 rfl hidx (by decide)
    obtain ⟨p1, p2⟩ := hput w
    have hg6 : (z.t.grab ((6 : Nat) : Int)).sts = [1, 2, 2, 2, 2, 2, 1, 0] := by
     rw [sts_grab (by rw [h.st]; decide), h.st]
     rfl
    refine ⟨w.put (spIt x) b, ?_, ?_, ?_, ?_, add_turn_ok h.h h.ok y1 x8⟩
    ·rw [x10]
     show _ = (_, Wr.at_ c8 ⟨w.d, w.t, w.p, [], []⟩ (spIt x), 0)
     have hw : w = ⟨w.d, w.t, w.p, [], []⟩ := by
      obtain ⟨wd, wt, wp, wi, wb⟩ := w
      simp only at x3 x4
      subst x3 x4
      rfl
     rw [← hw]
    ·show w.t.free = 1
     rw [free_sts, x8]
     have hs0 : y.p.s = 0 := y7.trans h.s
     rw [hs0, sts_shut (by rw [sts_touch, y8, hg6]; decide), sts_touch, y8, hg6]
     rfl
    ·show w.p.s ≠ 0
     rw [x6]
     decide
    ·rw [p1, x3]
     rfl
  ·have hne : n ≠ 0 := fun e => hn (List.length_eq_zero_iff.1 (by rw [hnn, e]))
   by_cases h2 : behind (behind z.p.o z.bl.length) (nbl (spIt x)) < c8.l
   ·obtain ⟨y, e0, e1, e2, e3, e4, e5⟩ := add_emit (sp := false) h.h hv (by omega) h1 hn h2
    obtain ⟨f1, f2⟩ := h.emit hm
    rw [e0] at f2
    have hE : absEmit o n = (max o 1 + 1 + n, 0) := by unfold absEmit; rw [if_neg hne]
    rw [hE] at f2
    refine .inr ⟨max o 1 + 1 + n, 1, ?_, by rw [e4], ?_⟩
    ·unfold absAdd
     rw [if_neg hA, if_pos, if_neg hne]
     rw [if_neg hne]
     rw [hbh, hnb, hcl, hbn] at h2
     unfold behind at h2
     omega
    ·rw [e4]
     obtain ⟨p1, p2⟩ := hput y
     exact { h := e5, s := f2.s, po := f2.po, ni := by rw [p1, e2]; rfl, bn := by rw [p2, e3]; rfl, l := f2.l, held := f2.held, st := f2.st, ok := f2.ok }
   ·have h2' : ¬ behind (if z.its = [] then z.p.o else behind z.p.o z.bl.length) (nbl (spIt x)) < c8.l := by
     rw [if_neg hn]
     exact h2
    refine .inl ⟨?_, add_none h.h hv h1 h2' (by unfold Tb.takes; rw [h.free]; rfl), ?_⟩
    ·unfold absAdd
     rw [if_neg hA, if_neg]
     rw [if_neg hne]
     rw [hbh, hnb, hcl, hbn] at h2
     unfold behind at h2
     omega
    ·have hidx : Tb.idx z.t.us = ((6 : Nat) : Int) := by
      rw [idx_sts, show z.t.us.map Us.st = _ from h.st]
      rfl
     obtain ⟨y, w, y1, y2, y3, y4, y5, y6, y7, y8, y9, x1, x2, x3, x4, x5, x6, x7, x8, x9, x10, x11⟩ := add_turn (sp := true) h.h hv (by omega) h1 h2' rfl hidx (by decide)
     obtain ⟨p1, p2⟩ := hput w
     have hg6 : (z.t.grab ((6 : Nat) : Int)).sts = [1, 2, 2, 2, 2, 2, 1, 0] := by
      rw [sts_grab (by rw [h.st]; decide), h.st]
      rfl
     refine ⟨w.put (spIt x) b, ?_, ?_, ?_, ?_, add_turn_ok h.h h.ok y1 x8⟩
     ·rw [x10]
      show _ = (_, Wr.at_ c8 ⟨w.d, w.t, w.p, [], []⟩ (spIt x), 0)
      have hw : w = ⟨w.d, w.t, w.p, [], []⟩ := by
       obtain ⟨wd, wt, wp, wi, wb⟩ := w
       simp only at x3 x4
       subst x3 x4
       rfl
      rw [← hw]
     ·show w.t.free = 1
      rw [free_sts, x8]
      have hs0 : y.p.s = 0 := y7.trans h.s
      rw [hs0, sts_shut (by rw [sts_touch, y8, hg6]; decide), sts_touch, y8, hg6]
      rfl
     ·show w.p.s ≠ 0
      rw [x6]
      decide
     ·rw [p1, x3]
      rfl
end
end Go.Kn
