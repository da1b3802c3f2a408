/- Contract of the reference's PageOf. -/
import Derived.Test.YtcojleippbneoaaPageC
set_option linter.unusedVariables false
namespace Go.Proofs.Ytcojleippbneoaa
open Go Go.RowKit Go.Kn

set_option maxRecDepth 100000 in
set_option maxHeartbeats 4000000 in
theorem ref_page_of_64 (A : Option Addr) (c : Nat) (bs : List UInt8) (w : World) (hi : Bys w A 64 c bs) :
    Calls Try.prog 51 #[.slice A 64 c] w (IntsSays w (decPage bs) 2) := by
  obtain ⟨i0, hi0, hz0, hz1, hz2⟩ := info_parts Try.infoInt
  have hlen := hi.len
  rw [bvs_length] at hlen
  have HI := Lib.hid hi
  have HL := Lib.hid hlen
  clear hi hlen
  have hwfr : ∀ z ∈ refsOf bs 15, (Lit.int .i64 z).wf = true := by
    intro z hz
    simp only [refsOf, List.mem_map, List.mem_range] at hz
    obtain ⟨i, hi, rfl⟩ := hz
    have h1 := num_lt ((bs.drop (4 * i)).take 4)
    have h2 : (256 : Nat) ^ ((bs.drop (4 * i)).take 4).length ≤ 256 ^ 4 := Nat.pow_le_pow_right (by decide) (by simp <;> omega)
    have h3 : (256 : Nat) ^ 4 = 4294967296 := rfl
    unfold refOf
    split
    · decide
    · simp [Lit.wf, IntKind.min, IntKind.max, IntKind.signed, IntKind.bits]
      omega
  have HWFR := Lib.hid hwfr
  clear hwfr
  go_enter Try.func51, Try.ntmps51
  go_wp2_with fail
  refine (ref_from_any A 64 c bs _ HI.out (by decide)).mono ?_
  rintro e w1 ⟨p, g, rfl, hp, hg, hr1, hO1⟩
  have HR1 := Lib.hid hr1
  have HO1 := Lib.hid hO1
  clear hr1 hO1
  go_wp2_with fail
  go_loopg [5, 6] 15 (fun r v i wr => ∃ (j k : Nat) (l : List Int), j + r = 15 ∧ i = .int .i64 j ∧ l.length = j ∧ Gath wr w.heap.size 3 v (ivs l) ∧ RowAt wr p g bs k ∧ Only [] w wr ∧ (∀ q, v.ownBlock = some q → q ≠ p ∧ q ≠ g) ∧
    (bs.length = 64 → k = 4 * j ∧ l = refsOf bs j))
  case atStart => exact ⟨0, 0, [], by omega, rfl, rfl, Gath.nil _ _ _ HO1.out.size, HR1.out, HO1.out, by simp [Value.ownBlock], fun _ => ⟨rfl, rfl⟩⟩
  obtain ⟨j, k, l, hj, rfl, hl, hG, hr, hO, hne, hpar⟩ := hrel
  have HG := Lib.hid hG
  have HR := Lib.hid hr
  have HO := Lib.hid hO
  have HNE := Lib.hid hne
  have HPAR := Lib.hid hpar
  have HLL := Lib.hid hl
  have HLZ := Lib.hid (show (ivs l).length = j by simp [hl])
  obtain ⟨Al, cl, rfl, hits, hown⟩ := hG.formN (n := j) (by simp [hl])
  have HITS := Lib.hid hits
  clear hG hr hO hne hpar hl hits hown
  by_cases hgo : j < 15
  · have hx : (j : Int) < 15 := by omega
    go_wp2_with fail
    obtain ⟨e1, e2⟩ := HPAR.out HL.out
    subst e1
    refine (ref_num_any p g (4 * j) bs 4 _ (by exact HR.out) (by decide) (by have := HL.out; omega)).mono ?_
    rintro e w2 ⟨rfl, hr2, hO2⟩
    generalize hxn : num ((bs.drop (4 * j)).take 4) = xn at *
    generalize hkk : 4 * j + 4 = k2 at *
    have hstep : bs.length = 64 → k2 = 4 * (j + 1) ∧ l ++ [refOf xn] = refsOf bs (j + 1) := by
      intro h64
      rw [← hxn, ← hkk, e2, refsOf_succ]
      exact ⟨by omega, rfl⟩
    have HSTEP := Lib.hid hstep
    have HR2 := Lib.hid hr2
    have HO2 := Lib.hid (HO.out.trans hO2 (by simpa using hp))
    have HG2 := Lib.hid (HG.out.keep hO2 (fun q hq => by simpa using (HNE.out q hq).1))
    clear hstep hr2 hO2 hxn hkk HR HO HG e2
    by_cases hx1 : xn = 4294967295
    · subst hx1
      have hro : refOf 4294967295 = -1 := rfl
      rw [hro] at HSTEP
      go_wp2_with (first
        | (at_builtin; refine wpList_append_row1 rfl (.tmp 23) (.tmp 25) 22 rfl w.heap.size 3 i0 _ 8 Try.underlying22 hi0 hz0 hz1 hz2 rfl (.slice Al j cl) j (ivs l) rfl (HG2.out.own ((Only.refl _ _).alloc _) HLZ.out) _ 1 1 (ivs [-1]) rfl (ins_built _ [-1] _ 1 rfl (by omega)) (ivs_one _) (by unfold maxLen; omega) (by omega) (HG2.out.base_le ((Only.refl _ _).alloc _)) ?_; intro v1 w3 hown1 hgr1 hat1)
        | fail)
      go_roundg (gk - 1)
      case measure => omega
      case rel =>
        have hO7 : Only [] w (w2.alloc (.cells #[.int .i64 (-1)] 3)) := HO2.out.alloc _
        have hG7 := HG2.out.keep0 ((Only.refl [] w2).alloc (.cells #[.int .i64 (-1)] 3))
        obtain ⟨hG9, hO9⟩ := hG7.grown hO7 rfl hown1 (by simp [HLL.out]) hgr1
        rw [← ivs_snoc] at hG9
        have hR7 := HR2.out.alloc (.cells #[.int .i64 (-1)] 3)
        have hS : Only ((Value.slice Al j cl).ownBlock.toList) (w2.alloc (.cells #[.int .i64 (-1)] 3)) w3 := (Only.refl _ _).grown hgr1 fun q hq => .inl (by rw [hq]; simp)
        have hR9 := hR7.keep hS (fun hq => (HNE.out p (by simpa using hq)).1 rfl) (fun hq => (HNE.out g (by simpa using hq)).2 rfl)
        have hlp := HR2.out.lp
        have hlg := HR2.out.lg
        refine ⟨j + 1, k2, l ++ [-1], by omega, by go_num, by simp [HLL.out], hG9, hR9, hO9, ?_, HSTEP.out⟩
        intro q hq
        rcases hat1 with hat | hat
        · exact HNE.out q (by rw [← hat]; exact hq)
        · rw [hat] at hq
          injection hq with hq
          simp at hq
          omega
    · have hro : refOf xn = (xn : Int) := by unfold refOf; rw [if_neg hx1]
      rw [hro] at HSTEP
      have hx3 : ¬ (xn : Int) = 4294967295 := by omega
      have hx4 : ((xn : Int) == 4294967295) = false := by simpa using hx3
      go_wp2_with (first
        | (at_builtin; refine wpList_append_row1 rfl (.tmp 23) (.tmp 25) 22 rfl w.heap.size 3 i0 _ 8 Try.underlying22 hi0 hz0 hz1 hz2 rfl (.slice Al j cl) j (ivs l) rfl (HG2.out.own ((Only.refl _ _).alloc _) HLZ.out) _ 1 1 (ivs [(xn : Int)]) rfl (ins_built _ [(xn : Int)] _ 1 rfl (by omega)) (ivs_one _) (by unfold maxLen; omega) (by omega) (HG2.out.base_le ((Only.refl _ _).alloc _)) ?_; intro v1 w3 hown1 hgr1 hat1)
        | fail)
      go_roundg (gk - 1)
      case measure => omega
      case rel =>
        have hO7 : Only [] w (w2.alloc (.cells #[.int .i64 ((xn : Int))] 3)) := HO2.out.alloc _
        have hG7 := HG2.out.keep0 ((Only.refl [] w2).alloc (.cells #[.int .i64 ((xn : Int))] 3))
        obtain ⟨hG9, hO9⟩ := hG7.grown hO7 rfl hown1 (by simp [HLL.out]) hgr1
        rw [← ivs_snoc] at hG9
        have hR7 := HR2.out.alloc (.cells #[.int .i64 ((xn : Int))] 3)
        have hS : Only ((Value.slice Al j cl).ownBlock.toList) (w2.alloc (.cells #[.int .i64 ((xn : Int))] 3)) w3 := (Only.refl _ _).grown hgr1 fun q hq => .inl (by rw [hq]; simp)
        have hR9 := hR7.keep hS (fun hq => (HNE.out p (by simpa using hq)).1 rfl) (fun hq => (HNE.out g (by simpa using hq)).2 rfl)
        have hlp := HR2.out.lp
        have hlg := HR2.out.lg
        refine ⟨j + 1, k2, l ++ [(xn : Int)], by omega, by go_num, by simp [HLL.out], hG9, hR9, hO9, ?_, HSTEP.out⟩
        intro q hq
        rcases hat1 with hat | hat
        · exact HNE.out q (by rw [← hat]; exact hq)
        · rw [hat] at hq
          injection hq with hq
          simp at hq
          omega
  · obtain rfl : j = 15 := by omega
    have hds := decPage_same bs l (fun h => (HPAR.out h).2)
    have HDS := Lib.hid hds
    clear hds
    have hx6 : ¬ ((15 : Nat) : Int) < 15 := by omega
    go_wp2_with fail
    refine (ref_page_bytes_any Al 15 cl l _ (by exact HITS.out) (by rw [(HPAR.out HL.out).2]; exact HWFR.out)).mono ?_
    rintro e w3 ⟨A3, c3, rfl, hb3, hn3, hO3⟩
    have HB := Lib.hid (HI.out.keep0 (HO.out.trans' hO3))
    have HO3 := Lib.hid (HO.out.trans' hO3)
    have HITS3 := Lib.hid (HITS.out.keep0 hO3)
    clear hn3 hO3
    cases hen : encPage l with
    | none =>
      rw [hen] at hb3
      clear hb3
      go_wp2
      go_ret2
      refine IntsSays.no ?_ HO3.out
      rw [← HDS.out, hen]
      rfl
    | some ys =>
      rw [hen] at hb3
      simp only [Option.getD_some] at hb3
      have HB3 := Lib.hid hb3
      clear hb3
      simp only [Option.getD_some, Option.isSome_some, if_true]
      go_wp2_with fail
      refine (equal_any A3 ys.length c3 ys A 64 c bs _ (by exact HB3.out) (by exact HB.out)).mono ?_
      rintro e w4 ⟨rfl, k4, rfl⟩
      by_cases hyb : ys = bs
      · have hd : decide (ys = bs) = true := by simp [hyb]
        go_wp2
        go_ret2
        have hdb : decPage bs = some l := by rw [← HDS.out, hen, hyb, if_pos rfl]
        have hl := HLL.out
        exact ⟨Al, cl, by simp [hdb, hl], by simpa [hdb, hl] using HITS3.out.drewN k4, HO3.out.drewN k4⟩
      · have hd : decide (ys = bs) = false := by simp [hyb]
        go_wp2
        go_ret2
        refine IntsSays.no ?_ (HO3.out.drewN k4)
        rw [← HDS.out, hen, if_neg (by intro h; injection h with h; exact hyb h)]

set_option maxRecDepth 100000 in
set_option maxHeartbeats 4000000 in
theorem ref_page_of_any (A : Option Addr) (n c : Nat) (bs : List UInt8) (w : World) (hi : Bys w A n c bs) :
    Calls Try.prog 51 #[.slice A n c] w (IntsSays w (decPage bs) 2) := by
  obtain ⟨i0, hi0, hz0, hz1, hz2⟩ := info_parts Try.infoInt
  have hlen := hi.len
  rw [bvs_length] at hlen
  have HI := Lib.hid hi
  have HL := Lib.hid hlen
  clear hi hlen
  by_cases h64 : n = 64
  · subst h64
    exact ref_page_of_64 A c bs w HI.out
  · have hne : ((n : Int) != 64) = true := by rw [bne_iff_ne]; omega
    go_enter Try.func51, Try.ntmps51
    go_wp2
    go_ret2
    refine IntsSays.no ?_ (Only.refl _ _)
    unfold decPage
    rw [if_neg (by have := HL.out; omega)]
end Go.Proofs.Ytcojleippbneoaa
