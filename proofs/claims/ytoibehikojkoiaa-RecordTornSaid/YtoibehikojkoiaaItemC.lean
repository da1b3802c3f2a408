/- Contracts of item.Decode and the reference's ItemOf. -/
import Derived.Test.YtoibehikojkoiaaItemQ
import Derived.Test.YtoibehikojkoiaaItemB
import Derived.Test.YtoibehikojkoiaaBytesEq
set_option linter.unusedVariables false
namespace Go.Kn
open Go Go.RowKit
theorem RowAt.far {w : World} {p g k : Nat} {bs : List UInt8} (h : RowAt w p g bs k) {q : Addr} (h1 : q.block ≠ p) (h2 : q.block ≠ g) (u : Value) : RowAt (w.setCell q u) p g bs k :=
  h.keep (S := [q.block]) ((Only.refl _ _).set (by simp) u) (by simpa using Ne.symm h1) (by simpa using Ne.symm h2)

/-- what a reader of items answers -/
def DecSays (w : World) (o : Option (List It)) (err : Int) (e : Ending) (w' : World) : Prop :=
  ∃ A c, e = .returned (.tuple #[.slice A (o.getD []).length c, .int .i64 (if o.isSome then 0 else err)]) ∧ Its w' A (o.getD []).length c (o.getD []) ∧
    (0 < (o.getD []).length → ∀ a, A = some a → w.heap.size ≤ a.block) ∧ Only [] w w'
theorem DecSays.no {w w' : World} {o : Option (List It)} {err : Int} (h : o = none) (hO : Only [] w w') : DecSays w o err (.returned (.tuple #[.slice none 0 0, .int .i64 err])) w' := by
  subst h
  exact ⟨none, 0, rfl, Its.nil _, by simp, hO⟩

/-- the item that the four calls of Get give, and the place behind it -/
def gotK (bs : List UInt8) (k : Nat) : Nat := getK bs (getK bs (getK bs (getK bs k 1) 1) 1) 4
def gotIt (bs : List UInt8) (k : Nat) : It := ⟨getN bs k 1, getN bs (getK bs k 1) 1, getN bs (getK bs (getK bs k 1) 1) 1, getN bs (getK bs (getK bs (getK bs k 1) 1) 1) 4⟩
theorem got_ok {bs : List UInt8} {k : Nat} {n : Nat} (hw : n = 1 ∨ n = 4) (h : k + n ≤ bs.length) : getN bs k n = num ((bs.drop k).take n) ∧ getK bs k n = k + n := by
  have e : getOk bs k n = true := by unfold getOk; exact decide_eq_true ⟨by omega, by omega⟩
  simp [getN, getK, e]
theorem got_good {bs : List UInt8} {j : Nat} (h : 7 * j + 7 ≤ bs.length) : gotIt bs (7 * j) = itAt bs j ∧ gotK bs (7 * j) = 7 * (j + 1) := by
  obtain ⟨a1, b1⟩ := got_ok (bs := bs) (k := 7 * j) (n := 1) (by omega) (by omega)
  obtain ⟨a2, b2⟩ := got_ok (bs := bs) (k := 7 * j + 1) (n := 1) (by omega) (by omega)
  obtain ⟨a3, b3⟩ := got_ok (bs := bs) (k := 7 * j + 1 + 1) (n := 1) (by omega) (by omega)
  obtain ⟨a4, b4⟩ := got_ok (bs := bs) (k := 7 * j + 1 + 1 + 1) (n := 4) (by omega) (by omega)
  have c4 : ((4 : Nat) : Int) = 4 := rfl
  simp only [Int.natCast_one] at *
  rw [c4] at a4 b4
  constructor
  · simp only [gotIt, itAt, b1, b2, b3, a1, a2, a3, a4]
  · simp only [gotK, b1, b2, b3, b4]
    omega

theorem news_new (w : World) (cs : Array Value) (t : TypeId) (hm : cs.toList.length ≤ maxLen) : ∀ j u, cs.toList[j]? = some u → (w.alloc (.cells cs t)).cell? ((⟨w.heap.size, 0, none⟩ : Addr).add j) = some u :=
  (Row1.of_Own (Own.new w cs t) rfl (Nat.le_refl _) hm).news rfl
theorem got_facts {bs : List UInt8} {k k0 k1 k2 k3 j : Nat} {x0 x1 x2 x3 : Int} {l : List It} (hx0 : ((getN bs k 1 : Nat) : Int) = x0) (hk0 : getK bs k 1 = k0) (hx1 : ((getN bs k0 1 : Nat) : Int) = x1) (hk1 : getK bs k0 1 = k1)
    (hx2 : ((getN bs k1 1 : Nat) : Int) = x2) (hk2 : getK bs k1 1 = k2) (hx3 : ((getN bs k2 4 : Nat) : Int) = x3) (hk3 : getK bs k2 4 = k3) (hpar : 7 * j ≤ bs.length → k = 7 * j ∧ l = parse bs j) (h : 7 * (j + 1) ≤ bs.length) :
    k3 = 7 * (j + 1) ∧ l ++ [⟨x0, x1, x2, x3⟩] = parse bs (j + 1) := by
  obtain ⟨rfl, rfl⟩ := hpar (by omega)
  subst hx0 hk0 hx1 hk1 hx2 hk2 hx3 hk3
  obtain ⟨h1, h2⟩ := got_good (bs := bs) (j := j) (by omega)
  exact ⟨h2, by rw [parse_succ, ← h1]; rfl⟩

/-- amid a round that reads an item: the row, the item's own cells, and what was gathered -/
structure Mid (w0 w : World) (p g k f e : Nat) (bs : List UInt8) (v : Value) (n : Nat) (ys : List Value) (xs : List Value) : Prop where
  row : RowAt w p g bs k
  box : Own w f xs
  only : Only [] w0 w
  gath : GathN w w0.heap.size e 4 v n ys
  ne : ∀ q, v.ownBlock = some q → q ≠ p ∧ q ≠ g ∧ q ≠ f
  fp : p ≠ f
  fg : g ≠ f
  hf : w0.heap.size ≤ f
  hp : w0.heap.size ≤ p
section
variable {w0 w w' : World} {p g k k' f e n : Nat} {bs : List UInt8} {v : Value} {xs ys : List Value}
theorem Mid.got (h : Mid w0 w p g k f e bs v n ys xs) (hr : RowAt w' p g bs k') (hO : Only [p] w w') : Mid w0 w' p g k' f e bs v n ys xs :=
  ⟨hr, h.box.keep hO (by simpa using Ne.symm h.fp), h.only.trans hO (by simpa using h.hp), h.gath.keep hO (fun q hq => by simpa using (h.ne q hq).1), h.ne, h.fp, h.fg, h.hf, h.hp⟩
theorem Mid.put (h : Mid w0 w p g k f e bs v n ys xs) (i : Nat) (u : Value) : Mid w0 (w.setCell ⟨f, i, none⟩ u) p g k f e bs v n ys (xs.set i u) :=
  ⟨h.row.far (Ne.symm h.fp) (Ne.symm h.fg) u, h.box.set i u, h.only.set (.inr h.hf) u, h.gath.keep (S := [f]) ((Only.refl _ _).set (by simp) u) (fun q hq => by simpa using (h.ne q hq).2.2), h.ne, h.fp, h.fg, h.hf, h.hp⟩
end
end Go.Kn
namespace Go.Proofs.Ytoibehikojkoiaa
open Go Go.RowKit Go.Kn

theorem Try.infoItem : (Try.prog.info? 87).map (fun i => (i.zero, i.size, i.bytes)) = some (some (.agg #[.int .i64 0, .int .i64 0, .int .i64 0, .int .i64 0]), 4, 32) := by kernel_rfl

set_option maxRecDepth 100000 in
set_option maxHeartbeats 4000000 in
theorem item_dec_any (A : Option Addr) (n c : Nat) (bs : List UInt8) (w : World) (hi : Bys w A n c bs) (hn : n ≤ 65536) :
    Calls Try.prog 87 #[.slice A n c] w (DecSays w (decItems bs) 2) := by
  obtain ⟨i0, hi0, hz0, hz1, hz2⟩ := info_parts Try.infoItem
  have hlen := hi.len
  rw [bvs_length] at hlen
  have HI := Lib.hid hi
  have HL := Lib.hid hlen
  clear hi hlen
  go_enter Try.func87, Try.ntmps87
  go_wp2_with fail
  refine (from_any A n c bs _ HI.out hn).mono ?_
  rintro e w1 ⟨p, g, rfl, hp, hg, hr1, hO1⟩
  have HR1 := Lib.hid hr1
  have HO1 := Lib.hid hO1
  clear hr1 hO1
  go_wp2_with fail
  go_loopg [2] 6 (fun r v wr => ∃ (j k : Nat) (l : List It), j + r = 6 ∧ l.length = j ∧ GathN wr w.heap.size 87 4 v j (itsV l) ∧ RowAt wr p g bs k ∧ Only [] w wr ∧ (∀ q, v.ownBlock = some q → q ≠ p ∧ q ≠ g) ∧
    (7 * j ≤ bs.length → k = 7 * j ∧ l = parse bs j) ∧ (bs.length % 7 = 0 → 7 * j ≤ bs.length))
  case atStart => exact ⟨0, 0, [], by omega, rfl, GathN.nil _ _ _ _ HO1.out.size, HR1.out, HO1.out, by simp [Value.ownBlock], fun _ => ⟨rfl, rfl⟩, by omega⟩
  obtain ⟨j, k, l, hj, hl, hG, hr, hO, hne, hpar, hmod⟩ := hrel
  have HG := Lib.hid hG
  have HR := Lib.hid hr
  have HO := Lib.hid hO
  have HNE := Lib.hid hne
  have HPAR := Lib.hid hpar
  have HMOD := Lib.hid hmod
  have HLL := Lib.hid hl
  obtain ⟨Al, cl, rfl, hits, hown⟩ := hG.its hl
  have HITS := Lib.hid hits
  have HOWN := Lib.hid hown
  have hlp := hr.lp
  have hlg := hr.lg
  clear hG hr hO hne hpar hmod hl hits hown
  by_cases hgo : j < 6 ∧ 0 < bs.length - k
  · obtain ⟨hj6, hleft⟩ := hgo
    have hx6 : (j : Int) < 6 := by omega
    have hxl : (0 : Int) < ((bs.length - k : Nat) : Int) := by omega
    go_wp2_with fail
    refine (left_any p g k bs _ (by exact HR.out)).mono ?_
    rintro e w2 ⟨rfl, n2, rfl⟩
    go_wp2_with fail
    have hf0 : w.heap.size ≤ wr.heap.size := HO.out.size
    generalize hf : wr.heap.size = f at *
    have hb0 : Own ((wr.drewN n2).alloc (.cells #[.int .i64 0, .int .i64 0, .int .i64 0, .int .i64 0] 87)) f [.int .i64 0, .int .i64 0, .int .i64 0, .int .i64 0] := by rw [← hf]; exact Own.new _ _ _
    have hm0 : Mid w ((wr.drewN n2).alloc (.cells #[.int .i64 0, .int .i64 0, .int .i64 0, .int .i64 0] 87)) p g k f 87 bs (.slice Al j cl) j (itsV l) [.int .i64 0, .int .i64 0, .int .i64 0, .int .i64 0] :=
      ⟨(HR.out.drewN n2).alloc _, hb0, (HO.out.drewN n2).alloc _, (HG.out.keep0 ((Only.refl _ _).drewN n2)).keep0 ((Only.refl _ _).alloc _), fun q hq => ⟨(HNE.out q hq).1, (HNE.out q hq).2, by have := (HOWN.out q hq).2; omega⟩, by omega, by omega, hf0, hp⟩
    generalize (wr.drewN n2).alloc (.cells #[.int .i64 0, .int .i64 0, .int .i64 0, .int .i64 0] 87) = wb at *
    clear hb0 HR HO HG
    refine (get_all p g k bs 1 _ (by exact hm0.row)).mono ?_
    rintro e w3 ⟨rfl, hr3, hO3⟩
    have hn0 := hm0.got hr3 hO3
    generalize hx0 : ((getN bs k 1 : Nat) : Int) = x0 at *
    have HX0 := Lib.hid hx0
    generalize hk0 : getK bs k 1 = k0 at *
    have HK0 := Lib.hid hk0
    generalize getOk bs k 1 = o0 at *
    have q0 := hn0.box.cell 0 (by simp)
    have z0 := hn0.box.frozen 0
    simp only [List.getElem_cons_zero] at q0
    have hm1 := hn0.put 0 (.int .i64 x0)
    simp only [List.set_cons_zero] at hm1
    have HM1 := Lib.hid hm1
    clear hr3 hO3 hx0 hk0 hn0 hm0 hm1
    go_wp2_with fail
    refine (get_all p g k0 bs 1 _ (by exact HM1.out.row)).mono ?_
    rintro e w4 ⟨rfl, hr3, hO3⟩
    have hn1 := HM1.out.got hr3 hO3
    generalize hx1 : ((getN bs k0 1 : Nat) : Int) = x1 at *
    have HX1 := Lib.hid hx1
    generalize hk1 : getK bs k0 1 = k1 at *
    have HK1 := Lib.hid hk1
    generalize getOk bs k0 1 = o1 at *
    have q0 := hn1.box.cell 1 (by simp)
    have z0 := hn1.box.frozen 1
    simp only [List.getElem_cons_zero, List.getElem_cons_succ] at q0
    have hm2 := hn1.put 1 (.int .i64 x1)
    simp only [List.set_cons_zero, List.set_cons_succ] at hm2
    have HM2 := Lib.hid hm2
    clear hr3 hO3 hx1 hk1 hn1 HM1 hm2
    go_wp2_with fail
    refine (get_all p g k1 bs 1 _ (by exact HM2.out.row)).mono ?_
    rintro e w5 ⟨rfl, hr3, hO3⟩
    have hn2 := HM2.out.got hr3 hO3
    generalize hx2 : ((getN bs k1 1 : Nat) : Int) = x2 at *
    have HX2 := Lib.hid hx2
    generalize hk2 : getK bs k1 1 = k2 at *
    have HK2 := Lib.hid hk2
    generalize getOk bs k1 1 = o2 at *
    have q0 := hn2.box.cell 2 (by simp)
    have z0 := hn2.box.frozen 2
    simp only [List.getElem_cons_zero, List.getElem_cons_succ] at q0
    have hm3 := hn2.put 2 (.int .i64 x2)
    simp only [List.set_cons_zero, List.set_cons_succ] at hm3
    have HM3 := Lib.hid hm3
    clear hr3 hO3 hx2 hk2 hn2 HM2 hm3
    go_wp2_with fail
    refine (get_all p g k2 bs 4 _ (by exact HM3.out.row)).mono ?_
    rintro e w6 ⟨rfl, hr3, hO3⟩
    have hn3 := HM3.out.got hr3 hO3
    generalize hx3 : ((getN bs k2 4 : Nat) : Int) = x3 at *
    have HX3 := Lib.hid hx3
    generalize hk3 : getK bs k2 4 = k3 at *
    have HK3 := Lib.hid hk3
    generalize getOk bs k2 4 = o3 at *
    have q0 := hn3.box.cell 3 (by simp)
    have z0 := hn3.box.frozen 3
    simp only [List.getElem_cons_zero, List.getElem_cons_succ] at q0
    have hm4 := hn3.put 3 (.int .i64 x3)
    simp only [List.set_cons_zero, List.set_cons_succ] at hm4
    have HM4 := Lib.hid hm4
    clear hr3 hO3 hx3 hk3 hn3 HM3 hm4
    generalize hw7 : w6.setCell ⟨f, 3, none⟩ (.int .i64 x3) = w7 at *
    have y0 := HM4.out.box.cell 0 (by simp)
    have y1 := HM4.out.box.cell 1 (by simp)
    have y2 := HM4.out.box.cell 2 (by simp)
    have y3 := HM4.out.box.cell 3 (by simp)
    simp only [List.getElem_cons_zero, List.getElem_cons_succ] at y0 y1 y2 y3
    have hnw := news_new w7 #[.int .i64 x0, .int .i64 x1, .int .i64 x2, .int .i64 x3] 87 (by simp [maxLen])
    have hone := itsV_one [⟨x0, x1, x2, x3⟩]
    have hbase := HM4.out.only.size
    go_wp2_with (first
      | (at_builtin; refine wpList_append_own_at _ rfl (.tmp 42) (.tmp 44) 44 rfl w.heap.size 87 i0 _ 4 32 Try.underlying44 hi0 hz0 hz1 hz2 rfl (by decide) (.slice Al j cl) j (itsV l) rfl ((HM4.out.gath.keep0 ((Only.refl _ _).alloc _)).1) ⟨w7.heap.size, 0, none⟩ 1 1 (itsV [⟨x0, x1, x2, x3⟩]) rfl rfl hnw hone (by unfold maxLen; omega) (by omega) (by simp; omega) ?_; intro v' w8 hown hgrow _ hat)
      | fail)
    go_roundg (gk - 1)
    case measure => omega
    case rel =>
      have hO7 : Only [] w (w7.alloc (.cells #[.int .i64 x0, .int .i64 x1, .int .i64 x2, .int .i64 x3] 87)) := HM4.out.only.alloc _
      have hG7 := HM4.out.gath.keep0 ((Only.refl _ w7).alloc (.cells #[.int .i64 x0, .int .i64 x1, .int .i64 x2, .int .i64 x3] 87))
      obtain ⟨hG8, hO8⟩ := hG7.grown hO7 rfl hown hgrow
      have hR7 := HM4.out.row.alloc (.cells #[.int .i64 x0, .int .i64 x1, .int .i64 x2, .int .i64 x3] 87)
      have hS : Only ((Value.slice Al j cl).ownBlock.toList) (w7.alloc (.cells #[.int .i64 x0, .int .i64 x1, .int .i64 x2, .int .i64 x3] 87)) w8 := (Only.refl _ _).grown hgrow fun q hq => .inl (by rw [hq]; simp)
      have hR8 := hR7.keep hS (fun hq => (HM4.out.ne p (by simpa using hq)).1 rfl) (fun hq => (HM4.out.ne g (by simpa using hq)).2.1 rfl)
      have h1 := hR7.lp
      have h2 := hR7.lg
      have hlp7 := HM4.out.row.lp
      have hlg7 := HM4.out.row.lg
      have hpar := HPAR.out
      have hmod := HMOD.out
      refine ⟨j + 1, k3, l ++ [⟨x0, x1, x2, x3⟩], by omega, by simp [HLL.out], by rw [itsV_append]; exact hG8, hR8, hO8, ?_, fun h => got_facts HX0.out HK0.out HX1.out HK1.out HX2.out HK2.out HX3.out HK3.out hpar h, ?_⟩
      · intro q hq
        rcases hat with hat | hat
        · exact HNE.out q (by rw [← hat]; exact hq)
        · rw [hat] at hq
          injection hq with hq
          simp at hq
          omega
      · intro h7
        have a1 := hmod h7
        have a2 := (hpar a1).1
        omega
  · have hpar := HPAR.out
    have hmod := HMOD.out
    have hds := dec_same bs l (by have := HLL.out; omega) (fun h7 h42 => by
      have a1 := hmod h7
      obtain ⟨a2, a3⟩ := hpar a1
      rw [a3]
      congr 1
      omega)
    have HDS := Lib.hid hds
    clear hpar hmod hds
    by_cases hj6 : j < 6
    · have hx6 : (j : Int) < 6 := by omega
      have hxl : ¬ (0 : Int) < ((bs.length - k : Nat) : Int) := by omega
      go_wp2_with fail
      refine (left_any p g k bs _ (by exact HR.out)).mono ?_
      rintro e w2 ⟨rfl, n2, rfl⟩
      go_wp2_with fail
      refine (item_enc_any Al j cl l _ (by exact HITS.out.keep0 ((Only.refl _ _).drewN n2))).mono ?_
      rintro e w3 ⟨A3, c3, rfl, hb3, hn3, hO3⟩
      have hits := (HITS.out.keep0 ((Only.refl _ _).drewN n2)).keep0 hO3
      have HB := Lib.hid (HI.out.keep0 ((HO.out.drewN n2).trans' hO3))
      have HO3 := Lib.hid ((HO.out.drewN n2).trans' hO3)
      have HITS3 := Lib.hid hits
      clear hn3 hO3 hits
      cases hen : encItems l with
      | none =>
        rw [hen] at hb3
        clear hb3
        go_wp2
        go_ret2
        refine DecSays.no ?_ HO3.out
        rw [← HDS.out, hen]
        rfl
      | some ys =>
        rw [hen] at hb3
        simp only [Option.getD_some] at hb3
        have HB3 := Lib.hid hb3
        clear hb3
        simp only [Option.getD_some, Option.isSome_some, if_true]
        go_wp2_with fail
        refine (bytes_equal_any A3 ys.length c3 ys A n c bs _ (by exact HB3.out) (by exact HB.out)).mono ?_
        rintro e w4 ⟨rfl, rfl⟩
        by_cases hyb : ys = bs
        · have hd : decide (ys = bs) = true := by simp [hyb]
          go_wp2
          go_ret2
          have hdb : decItems bs = some l := by rw [← HDS.out, hen, hyb, if_pos rfl]
          have hl := HLL.out
          refine ⟨Al, cl, by simp [hdb, hl], by simpa [hdb, hl] using HITS3.out, ?_, HO3.out⟩
          intro _ a ha
          subst ha
          exact (HOWN.out a.block rfl).1
        · have hd : decide (ys = bs) = false := by simp [hyb]
          go_wp2
          go_ret2
          refine DecSays.no ?_ HO3.out
          rw [← HDS.out, hen, if_neg (by intro h; injection h with h; exact hyb h)]
    · have hx6 : ¬ (j : Int) < 6 := by omega
      go_wp2_with fail
      refine (item_enc_any Al j cl l _ (by exact HITS.out)).mono ?_
      rintro e w3 ⟨A3, c3, rfl, hb3, hn3, hO3⟩
      have hits := (HITS.out).keep0 hO3
      have HB := Lib.hid (HI.out.keep0 ((HO.out).trans' hO3))
      have HO3 := Lib.hid ((HO.out).trans' hO3)
      have HITS3 := Lib.hid hits
      clear hn3 hO3 hits
      cases hen : encItems l with
      | none =>
        rw [hen] at hb3
        clear hb3
        go_wp2
        go_ret2
        refine DecSays.no ?_ HO3.out
        rw [← HDS.out, hen]
        rfl
      | some ys =>
        rw [hen] at hb3
        simp only [Option.getD_some] at hb3
        have HB3 := Lib.hid hb3
        clear hb3
        simp only [Option.getD_some, Option.isSome_some, if_true]
        go_wp2_with fail
        refine (bytes_equal_any A3 ys.length c3 ys A n c bs _ (by exact HB3.out) (by exact HB.out)).mono ?_
        rintro e w4 ⟨rfl, rfl⟩
        by_cases hyb : ys = bs
        · have hd : decide (ys = bs) = true := by simp [hyb]
          go_wp2
          go_ret2
          have hdb : decItems bs = some l := by rw [← HDS.out, hen, hyb, if_pos rfl]
          have hl := HLL.out
          refine ⟨Al, cl, by simp [hdb, hl], by simpa [hdb, hl] using HITS3.out, ?_, HO3.out⟩
          intro _ a ha
          subst ha
          exact (HOWN.out a.block rfl).1
        · have hd : decide (ys = bs) = false := by simp [hyb]
          go_wp2
          go_ret2
          refine DecSays.no ?_ HO3.out
          rw [← HDS.out, hen, if_neg (by intro h; injection h with h; exact hyb h)]
end Go.Proofs.Ytoibehikojkoiaa
