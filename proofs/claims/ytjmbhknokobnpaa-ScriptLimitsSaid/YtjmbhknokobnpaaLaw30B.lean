/- The law package of chapter 30: made. -/
import Derived.Test.YtjmbhknokobnpaaLaw30A
import Derived.Test.YtjmbhknokobnpaaFrameE
import Derived.Deep.RegionHeld3
import Derived.Deep.RegionLaw
import Derived.Deep.DeepCutAuto
set_option linter.unusedVariables false
set_option linter.unusedSimpArgs false
namespace Go.Kn
open Go Go.RowKit
def madeEv (e : Ev) : Ev := ⟨1 + e.k % 19, e.a % 2147483648, e.b % 2147483648, e.y % 65536, (e.ps.take 100).map (· % 192)⟩
theorem madeEv_may (e : Ev) : (madeEv e).may = true := by
  unfold Ev.may madeEv
  simp only [Bool.and_eq_true, decide_eq_true_eq, List.all_eq_true, List.mem_map, List.length_map, List.length_take]
  refine ⟨?_, by omega, by omega, by omega, by omega, by omega⟩
  rintro z ⟨y, _, rfl⟩
  omega
theorem madeEvs_may (l : List Ev) : (l.map madeEv).all Ev.may = true := by
  rw [List.all_eq_true]
  intro e he
  obtain ⟨x, _, rfl⟩ := List.mem_map.1 he
  exact madeEv_may x
/-- amid a round that builds an event: its box, what was gathered -/
structure MidF (w0 w : World) (f e : Nat) (v : Value) (l : List Ev) (xs : List (Ev × Sl)) (cs : List Value) : Prop where
  box : Own w f cs
  only : Only [] w0 w
  gath : GathE w w0.heap.size e v l xs
  vp : ∀ q, v.ownBlock = some q → q ≠ f
  xp : ∀ x ∈ xs, 0 < x.2.2.1 → ∀ a, x.2.1 = some a → a.block ≠ f
  hf : w0.heap.size ≤ f
section
variable {w0 w w' w1 : World} {f e : Nat} {v : Value} {l : List Ev} {xs : List (Ev × Sl)} {cs cs1 : List Value}
theorem MidF.put (h : MidF w0 w f e v l xs cs) (i : Nat) (u : Value) : MidF w0 (w.setCell ⟨f, i, none⟩ u) f e v l xs (cs.set i u) :=
  ⟨h.box.set i u, h.only.set (.inr h.hf) u, h.gath.keep (S := [f]) ((Only.refl _ _).set (by simp) u) (fun q hq => by simpa using h.vp q hq) (fun x hx hn a ha => by simpa using h.xp x hx hn a ha), h.vp, h.xp, h.hf⟩
theorem MidF.high {S : List Nat} (h : MidF w0 w f e v l xs cs) (h1 : MidF w0 w1 f e v l xs cs1) (hO : Only S w w') (hS : ∀ q ∈ S, w1.heap.size ≤ q) : MidF w0 w' f e v l xs cs := by
  have a3 := h1.box.lt
  have a4 := h1.only.size
  obtain ⟨_, _, _, _, a5⟩ := h1.gath.form
  exact ⟨h.box.keep hO (fun hq => by have := hS _ hq; omega), h.only.trans hO (fun q hq => .inr (by have := hS _ hq; omega)),
    h.gath.keep hO (fun q hq hin => by have := hS _ hin; have := a5 q hq; omega) (fun x hx hn a ha hin => by have := hS _ hin; have := (h1.gath.2.2 x hx).1.block_lt hn a ha; omega), h.vp, h.xp, h.hf⟩
theorem MidF.keep0 (h : MidF w0 w f e v l xs cs) (hO : Only [] w w') : MidF w0 w' f e v l xs cs := h.high h hO (by simp)
/-- at the beginning of a round: a box that is new -/
theorem MidF.start (hO : Only [] w0 w) (hG : GathE w w0.heap.size e v l xs) (hO2 : Only [] w w') (hb : Own w' f cs) (hf : w.heap.size ≤ f) : MidF w0 w' f e v l xs cs := by
  have a4 := hO.size
  obtain ⟨_, _, _, _, a5⟩ := hG.form
  exact ⟨hb, hO.trans' hO2, hG.keep0 hO2, fun q hq => by have := a5 q hq; omega, fun x hxm hn a ha => by have := (hG.2.2 x hxm).1.block_lt hn a ha; omega, by omega⟩
/-- what a round gathered: one event more -/
theorem MidF.append {v' : Value} {B : Option Addr} {m d n : Nat} {ev : Ev} (h : MidF w0 w f e v l xs cs) (hps : Ins w B m d ev.ps) (hB : 0 < m → ∀ a, B = some a → v.ownBlock ≠ some a.block) (hn : n = l.length + 1)
    (ho : w'.ownsRow w0.heap.size e 5 v' n (evsV xs ++ evsV [(ev, B, m, d)])) (hg : w.grownBy w' v.ownBlock) (hat : v'.ownBlock = v.ownBlock ∨ v'.ownBlock = some w.heap.size) :
    GathE w' w0.heap.size e v' (l ++ [ev]) (xs ++ [(ev, B, m, d)]) ∧ Only [] w0 w' := by
  obtain ⟨g1, g2⟩ := h.gath.grow (ys := [(ev, B, m, d)]) (n := n) h.only rfl (by simp [hn]) ho hg hat (by
    intro y hy
    simp at hy
    subst hy
    exact ⟨hps, fun hm a ha => hB hm a ha⟩)
  exact ⟨by simpa using g1, g2⟩
end
end Go.Kn
namespace Go.Proofs.Ytjmbhknokobnpaa
open Go Go.RowKit Go.Kn

set_option maxRecDepth 100000 in
set_option maxHeartbeats 8000000 in
theorem made30_any (A : Option Addr) (n c : Nat) (l : List Ev) (w : World) (hi : Evs w A n c l) (hw : ∀ e ∈ l, WfE e) (hn : n ≤ 1000) :
    Calls Try.prog 39 #[.slice A n c] w fun e w' => ∃ A' c', e = .returned (.slice A' n c') ∧ Evs w' A' n c' (l.map madeEv) ∧ Only [] w w' := by
  obtain ⟨i0, hi0, hz0, hz1, hz2⟩ := info_parts Try.infoEvent
  obtain ⟨i1, hi1, hy0, hy1, hy2⟩ := info_parts Try.infoInt
  have hlen := hi.len
  have hcm := hi.cm
  have hcl := hi.le
  unfold maxLen at hcm
  have HI := Lib.hid hi
  have HL := Lib.hid hlen
  have HW := Lib.hid hw
  clear hi hlen hw
  go_enter Try.func39, Try.ntmps39
  go_wp2_with fail
  go_loopg [3, 4] n (fun r v i wr => ∃ (j : Nat) (xs : List (Ev × Sl)), j + r = n ∧ i = .int .i64 j ∧ GathE wr w.heap.size 54 v ((l.take j).map madeEv) xs ∧ Only [] w wr)
  case atStart => exact ⟨0, [], by omega, rfl, by simpa using GathE.nil _ _ _ (Nat.le_refl _), Only.refl _ _⟩
  obtain ⟨j, xs, hj, rfl, hG, hO⟩ := hrel
  have hlj : ((l.take j).map madeEv).length = j := by rw [List.length_map, List.length_take, HL.out]; omega
  have HLJ := Lib.hid hlj
  have HG := Lib.hid hG
  have HO := Lib.hid hO
  obtain ⟨Al, cl, rfl, hevs, hown⟩ := hG.formN hlj
  have HEVS := Lib.hid hevs
  have HOWN := Lib.hid hown
  clear hG hO hevs hown hlj
  by_cases hlt : j < n
  · have hjz : j < l.length := by rw [HL.out]; exact hlt
    obtain ⟨a, o, rfl, hc⟩ := HI.out.at_ (by omega)
    obtain ⟨q0, q1, q2, q3, PB, pm, pd, q4, hps⟩ := hc j hjz
    have hal := lt_of_cell q0
    have c0 := HO.out.cell q0 (by simp)
    have c1 := HO.out.cell q1 (by simp)
    have c2 := HO.out.cell q2 (by simp)
    have c3 := HO.out.cell q3 (by simp)
    have HQ4 := Lib.hid q4
    have HPS := Lib.hid hps
    have hpl := hps.len
    rw [ivs_length] at hpl
    have HPL := Lib.hid hpl
    have hpc := hps.cm
    have hpk := hps.le
    unfold maxLen at hpc
    have hwf := HW.out l[j] (List.getElem_mem _)
    have W0 := Lib.hid hwf.k
    have W1 := Lib.hid hwf.a
    have W2 := Lib.hid hwf.b
    have W3 := Lib.hid hwf.y
    have W4 := Lib.hid hwf.ps
    have HMK : Hid (madeEv l[j] = ⟨1 + l[j].k % 19, l[j].a % 2147483648, l[j].b % 2147483648, l[j].y % 65536, (l[j].ps.take 100).map (· % 192)⟩) := Lib.hid rfl
    clear hc q0 q1 q2 q3 q4 hps hpl hwf
    generalize l[j].k = ik at *
    generalize l[j].a = ia at *
    generalize l[j].b = ib at *
    generalize l[j].y = iy at *
    generalize l[j].ps = ip at *
    have hlt2 : (j : Int) < (n : Int) := by omega
    have hge : 0 ≤ (j : Int) := by omega
    have htn : ((j : Int)).toNat = j := by omega
    have a1 : 0 ≤ ik % 19 ∧ ik % 19 < 19 := by omega
    have hw1 := IntWalk.i64_in (1 + ik % 19) (by omega)
    clear a1
    go_wp2_with fail
    go_cut [5] (fun s5 wx => ∃ f, s5 = .pointer (some ⟨f, 0, none⟩) ∧ wr.heap.size ≤ f ∧ Own wx f [.int .i64 (1 + ik % 19), .int .i64 (ia % 2147483648), .int .i64 (ib % 2147483648), .int .i64 (iy % 65536), .slice none 0 0] ∧ Only [] wr wx)
    case first =>
      go_region_held3 (fun w' => w'.cell? ⟨a, o + j * 5, none⟩ = some (.int .i64 ik) ∧ w'.cell? ⟨a, o + j * 5 + 1, none⟩ = some (.int .i64 ia) ∧ w'.cell? ⟨a, o + j * 5 + 2, none⟩ = some (.int .i64 ib) ∧ w'.cell? ⟨a, o + j * 5 + 3, none⟩ = some (.int .i64 iy))
        (first | exact ⟨c0, c1, c2, c3⟩ | go_keep)
        (first
        | (go_at_call 40; refine (round_any _ _ _ (by first | exact W0.out | exact W1.out | exact W2.out | exact W3.out) (by decide) (by decide)).mono ?_
           rintro e w' ⟨rfl, rfl⟩))
      all_goals
        go_wp2
        go_meet
        case rel => exact ⟨_, rfl, Nat.le_refl _, (Own.new _ _ _).drew, ((Only.refl _ _).alloc _).drew⟩
    case rest =>
      obtain ⟨f, rfl, hf, hb, hO5⟩ := hcut
      have HM6 := Lib.hid (MidF.start HO.out HG.out hO5 hb hf)
      have hal9 : a < wc.heap.size := by have := HO.out.size; have := hO5.size; omega
      obtain ⟨T, hT⟩ : ∃ T, min pm 100 = T := ⟨_, rfl⟩
      have HT := Lib.hid hT
      clear hb hO5 hT HO HG c0 c1 c2 c3
      go_wp2_with fail
      go_loopg [6] T (fun r i wr => ∃ (t : Nat) (A4 : Option Addr) (c4 : Nat), t + r = T ∧ i = .int .i64 t ∧ MidF w wr f 54 (.slice Al j cl) ((l.take j).map madeEv) xs [.int .i64 (1 + ik % 19), .int .i64 (ia % 2147483648), .int .i64 (ib % 2147483648), .int .i64 (iy % 65536), .slice A4 t c4] ∧
        Gath wr wc.heap.size 3 (.slice A4 t c4) (ivs ((ip.take t).map (· % 192))))
      case atStart => exact ⟨0, none, 0, by omega, rfl, HM6.out, by simpa [ivs] using Gath.nil _ _ _ (Nat.le_refl _)⟩
      obtain ⟨t, A4, c4, ht, rfl, hm, hG4⟩ := hrel
      have HMT := Lib.hid hm
      have HG4 := Lib.hid hG4
      have hsz5 := HM6.out.only.size
      have d4 := HMT.out.only.cell HQ4.out (by simp)
      have htm := HT.out
      clear hm hG4
      by_cases hlt3 : t < T
      · have htp : t < ip.length := by rw [HPL.out]; omega
        have ht1 : (t : Int) < (pm : Int) := by omega
        have ht2 : (t : Int) < 100 := by omega
        have ht3 : t < pm := by omega
        clear htm
        obtain ⟨pa, po, rfl, hcc⟩ := HPS.out.at_ (by omega)
        have cb := HMT.out.only.cell (hcc t (by rw [ivs_length]; exact htp)) (by simp)
        simp only [ivs, List.getElem_map] at cb
        have hwz := W4.out ip[t] (List.getElem_mem _)
        have hits : (ip.take (t + 1)).map (· % 192) = (ip.take t).map (· % 192) ++ [ip[t] % 192] := by
          rw [List.take_succ_eq_append_getElem htp, List.map_append]
          rfl
        have HITS := Lib.hid hits
        have HWZ := Lib.hid hwz
        clear hcc hits hwz
        generalize ip[t] = z at *
        have x4 := HMT.out.box.cell 4 (by simp)
        simp only [List.getElem_cons_zero, List.getElem_cons_succ] at x4
        have z4 := HMT.out.box.frozen 4
        have hfq := HMT.out.box.lt
        have HLZ := Lib.hid (show (ivs ((ip.take t).map (· % 192))).length = t by rw [ivs_length, List.length_map, List.length_take]; omega)
        have hge2 : 0 ≤ (t : Int) := by omega
        have htn2 : ((t : Int)).toNat = t := by omega
        go_wp2_with fail
        go_region_law (first
          | (refine step_append_row1 rfl (.tmp 54) (.tmp 64) 52 rfl wc.heap.size 3 i1 _ 8 Try.underlying52 hi1 hy0 hy1 hy2 rfl (.slice A4 t c4) t (ivs ((ip.take t).map (· % 192))) rfl (HG4.out.own ((Only.refl _ _).alloc _).drew HLZ.out) _ 1 1 (ivs [z % 192]) rfl ((ins_built _ [z % 192] _ 1 rfl (by omega)).drew) (ivs_one _) (by unfold maxLen; omega) (by omega) (HG4.out.base_le ((Only.refl _ _).alloc _).drew) ?_
             intro u1 wa hown1 hgr1 hat1
             have hS : Only ((Value.slice A4 t c4).ownBlock.toList) (wr.alloc (.cells #[.int .i64 (z % 192)] 3)).drew wa := (Only.refl _ _).grown hgr1 fun q hq => .inl (by rw [hq]; simp)
             have hSb : ∀ q ∈ (Value.slice A4 t c4).ownBlock.toList, wc.heap.size ≤ q := fun q hq => (HG4.out.1.lt q (by simpa using hq)).1
             have hM7 := (HMT.out.keep0 ((Only.refl _ _).alloc (.cells #[.int .i64 (z % 192)] 3)).drew).high HM6.out hS hSb
             have hl5 : (ivs ((ip.take (t + 1)).map (· % 192))).length = t + 1 := by rw [ivs_length, List.length_map, List.length_take]; omega
             have hG5 : Gath wa wc.heap.size 3 u1 (ivs ((ip.take (t + 1)).map (· % 192))) := by
               refine ⟨?_, Nat.le_trans (HG4.out.base_le ((Only.refl _ _).alloc (.cells #[.int .i64 (z % 192)] 3)).drew) hS.size⟩
               rw [hl5, HITS.out]
               simpa [ivs] using hown1
             obtain ⟨A5, c5, rfl, _, _⟩ := hG5.formN hl5
             have x4b := hM7.box.cell 4 (by simp)
             simp only [List.getElem_cons_zero, List.getElem_cons_succ] at x4b
             have z4b := hM7.box.frozen 4
             have HM7 := Lib.hid hM7
             have HG5 := Lib.hid hG5
             clear hS hSb hM7 hl5 hG5 hown1 hgr1 hat1 x4 z4 cb d4)
          | (go_simp; go_at_call 40; refine (round_any _ _ _ HWZ.out (by decide) (by decide)).mono ?_; rintro e w' ⟨rfl, rfl⟩))
        all_goals
          go_wp2
          go_roundg (gk - 1)
          case measure => omega
          case rel =>
            have hM8 := HM7.out.put 4 (.slice A5 (t + 1) c5)
            simp only [List.set_cons_zero, List.set_cons_succ] at hM8
            have hf5 := HM6.out.box.lt
            have hO8 : Only [f] wa (wa.setCell ⟨f, 4, none⟩ (.slice A5 (t + 1) c5)) := (Only.refl _ _).set (by simp) _
            refine ⟨t + 1, A5, c5, by omega, by go_num, hM8, HG5.out.keep hO8 (fun q hq => ?_)⟩
            have := (HG5.out.1.lt q hq).1
            simp
            omega
      · obtain rfl : t = T := by omega
        have hfull : ip.take t = ip.take 100 := by
          rw [← HT.out]
          rcases Nat.le_total pm 100 with h | h
          · rw [Nat.min_eq_left h, List.take_of_length_le (by rw [HPL.out]; omega), List.take_of_length_le (by rw [HPL.out]; exact h)]
          · rw [Nat.min_eq_right h]
        have hg4 := HG4.out
        rw [hfull] at hg4
        have hiz : (ivs ((ip.take 100).map (· % 192))).length = t := by rw [ivs_length, List.length_map, List.length_take, HPL.out, Nat.min_comm]; exact HT.out
        obtain ⟨_, _, hsl, hins, hA4⟩ := hg4.formN hiz
        injection hsl with e1 e2 e3
        subst e1 e3
        have HINS := Lib.hid hins
        have HA4 := Lib.hid hA4
        have hgn := HMT.out.gath.2.1
        rw [HLJ.out] at hgn
        have HGN := Lib.hid hgn
        have y0 := HMT.out.box.cell 0 (by simp)
        have y1 := HMT.out.box.cell 1 (by simp)
        have y2 := HMT.out.box.cell 2 (by simp)
        have y3 := HMT.out.box.cell 3 (by simp)
        have y4 := HMT.out.box.cell 4 (by simp)
        simp only [List.getElem_cons_zero, List.getElem_cons_succ] at y0 y1 y2 y3 y4
        have hnw := news_new wr #[.int .i64 (1 + ik % 19), .int .i64 (ia % 2147483648), .int .i64 (ib % 2147483648), .int .i64 (iy % 65536), .slice A4 t c4] 54 (by simp [maxLen])
        have hone := evsV_one [(⟨1 + ik % 19, ia % 2147483648, ib % 2147483648, iy % 65536, (ip.take 100).map (· % 192)⟩, (A4, t, c4))]
        have hbase := HMT.out.only.size
        have hstop : ¬ (t : Int) < (pm : Int) ∨ ((t : Int) < (pm : Int) ∧ ¬ (t : Int) < 100) := by omega
        clear hfull hg4 hiz hins hA4 hgn htm
        rcases hstop with hs | ⟨hs, hs2⟩
        all_goals
          go_wp2_with (first
            | (at_builtin; refine wpList_append_own_at _ rfl (.tmp 67) (.tmp 69) 42 rfl w.heap.size 54 i0 _ 5 56 Try.underlying42 hi0 hz0 hz1 hz2 rfl (by decide) (.slice Al j cl) j (evsV xs) rfl ((HGN.out.keep0 ((Only.refl _ _).alloc _)).1) ⟨wr.heap.size, 0, none⟩ 1 1 (evsV [(⟨1 + ik % 19, ia % 2147483648, ib % 2147483648, iy % 65536, (ip.take 100).map (· % 192)⟩, (A4, t, c4))]) rfl rfl hnw hone (by unfold maxLen; omega) (by omega) (by simp; omega) ?_; intro v' w8 hown hgrow _ hat)
            | fail)
          go_roundg (n - (j + 1))
          case measure => omega
          case rel =>
            have hm7 := HMT.out.keep0 ((Only.refl _ _).alloc (.cells #[.int .i64 (1 + ik % 19), .int .i64 (ia % 2147483648), .int .i64 (ib % 2147483648), .int .i64 (iy % 65536), .slice A4 t c4] 54))
            obtain ⟨g1, g2⟩ := hm7.append (ev := ⟨1 + ik % 19, ia % 2147483648, ib % 2147483648, iy % 65536, (ip.take 100).map (· % 192)⟩) (HINS.out.keep0 ((Only.refl _ _).alloc _)) (fun hm a ha => by
              have h1 := (HA4.out a ha).1
              obtain ⟨_, _, _, _, h3⟩ := HM6.out.gath.form
              exact fun hq => by have := (h3 _ hq).2; omega) (by rw [HLJ.out]) hown hgrow hat
            have he : (l.take (j + 1)).map madeEv = (l.take j).map madeEv ++ [⟨1 + ik % 19, ia % 2147483648, ib % 2147483648, iy % 65536, (ip.take 100).map (· % 192)⟩] := by
              rw [List.take_succ_eq_append_getElem hjz, List.map_append, List.map_cons, List.map_nil, HMK.out]
            rw [← he] at g1
            exact ⟨j + 1, _, by omega, by go_num, g1, g2⟩
  · obtain rfl : j = n := by omega
    have hfull : l.take j = l := List.take_of_length_le (by rw [HL.out]; omega)
    have hevs := HEVS.out
    rw [hfull] at hevs
    have HE := Lib.hid hevs
    clear hevs hfull
    go_wp2
    go_ret
    exact ⟨_, _, rfl, HE.out, HO.out⟩
end Go.Proofs.Ytjmbhknokobnpaa
