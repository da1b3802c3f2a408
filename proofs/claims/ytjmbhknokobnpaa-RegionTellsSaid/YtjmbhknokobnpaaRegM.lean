/- The reference's unbits and RegionOf. Printed by mkregm.py. -/
import Derived.Test.YtjmbhknokobnpaaRegK
import Derived.Test.YtjmbhknokobnpaaRegL
set_option linter.unusedVariables false
set_option linter.unusedSimpArgs false
namespace Go.Kn
open Go Go.RowKit
/-- amid the reference's reading of a region: the row, the box that is filled, the box of the answer, the device's numbers -/
structure DecR (w0 w : World) (p g f z c k : Nat) (b s l : Int) (bs : List UInt8) (cs : List Value) : Prop where
  row : RowAt w p g bs k
  box : Own w f cs
  out : Own w z [.int .i64 0, .int .i64 0, .int .i64 0, .int .i64 0, .int .i64 0, .int .i64 0, .int .i64 0, .int .i64 0, .int .i64 0, .int .i64 0, .int .i64 0, .slice none 0 0, .slice none 0 0, .slice none 0 0]
  cfg : GeoAt w c b s l
  only : Only [] w0 w
  pf : p ≠ f
  gf : g ≠ f
  pz : p ≠ z
  pc : p ≠ c
  fz : f ≠ z
  fc : f ≠ c
  hp : w0.heap.size ≤ p
  hf : w0.heap.size ≤ f
  hz : w0.heap.size ≤ z
section
variable {w0 w w' : World} {p g f z c k k' : Nat} {b s l : Int} {bs : List UInt8} {cs : List Value}
theorem GeoAt.keepP {S : List Nat} (h : GeoAt w p b s l) (hO : Only S w w') (hp : p ∉ S) : GeoAt w' p b s l := ⟨hO.cell h.c0 hp, hO.cell h.c1 hp, hO.cell h.c2 hp⟩
theorem DecR.keep {S : List Nat} (h : DecR w0 w p g f z c k b s l bs cs) (hO : Only S w w') (h1 : p ∉ S) (h2 : g ∉ S) (h3 : f ∉ S) (h4 : z ∉ S) (h5 : c ∉ S) (h6 : ∀ i ∈ S, w0.heap.size ≤ i) : DecR w0 w' p g f z c k b s l bs cs :=
  ⟨h.row.keep hO h1 h2, h.box.keep hO h3, h.out.keep hO h4, h.cfg.keepP hO h5, h.only.trans hO (fun i hi => .inr (h6 i hi)), h.pf, h.gf, h.pz, h.pc, h.fz, h.fc, h.hp, h.hf, h.hz⟩
theorem DecR.keep0 (h : DecR w0 w p g f z c k b s l bs cs) (hO : Only [] w w') : DecR w0 w' p g f z c k b s l bs cs := h.keep hO (by simp) (by simp) (by simp) (by simp) (by simp) (by simp)
theorem DecR.drew (h : DecR w0 w p g f z c k b s l bs cs) : DecR w0 w.drew p g f z c k b s l bs cs := h.keep0 ((Only.refl _ _).drew)
theorem DecR.got (h : DecR w0 w p g f z c k b s l bs cs) (hr : RowAt w' p g bs k') (hO : Only [p] w w') : DecR w0 w' p g f z c k' b s l bs cs :=
  ⟨hr, h.box.keep hO (by simpa using Ne.symm h.pf), h.out.keep hO (by simpa using Ne.symm h.pz), h.cfg.keepP hO (by simpa using Ne.symm h.pc), h.only.trans hO (by simpa using h.hp), h.pf, h.gf, h.pz, h.pc, h.fz, h.fc, h.hp, h.hf, h.hz⟩
theorem DecR.put (h : DecR w0 w p g f z c k b s l bs cs) (i : Nat) (u : Value) : DecR w0 (w.setCell ⟨f, i, none⟩ u) p g f z c k b s l bs (cs.set i u) :=
  ⟨h.row.far (Ne.symm h.pf) (Ne.symm h.gf) u, h.box.set i u, h.out.far h.fz u, h.cfg.keepP ((Only.refl [f] w).set (by simp) u) (by simpa using Ne.symm h.fc), h.only.set (.inr h.hf) u, h.pf, h.gf, h.pz, h.pc, h.fz, h.fc, h.hp, h.hf, h.hz⟩
end
end Go.Kn
namespace Go.Proofs.Ytjmbhknokobnpaa
open Go Go.RowKit Go.Kn

set_option maxRecDepth 100000 in
set_option maxHeartbeats 4000000 in
theorem ref_unbits_any (n P : Nat) (w : World) (hnlt : n < 4294967296) (hP : P ≤ 60) :
    Calls Try.prog 131 #[.int .i64 (n : Nat), .int .i64 (P : Nat)] w fun e w' => ∃ A c, e = .returned (.slice A P c) ∧ Ins w' A P c (unbits n P) ∧ (∀ a, A = some a → w.heap.size ≤ a.block) ∧ Only [] w w' := by
  obtain ⟨i1, hi1, hy0, hy1, hy2⟩ := info_parts Try.infoInt
  go_enter Try.func131, Try.ntmps131
  go_wp2_with fail
  go_loopg [5, 6] P (fun r v i wr => ∃ j : Nat, j + r = P ∧ i = .int .i64 j ∧ Gath wr w.heap.size 3 v (ivs (unbits n j)) ∧ Only [] w wr)
  case atStart => exact ⟨0, by omega, rfl, by simpa [unbits, ivs] using Gath.nil _ _ _ (Nat.le_refl _), Only.refl _ _⟩
  obtain ⟨j, hj, rfl, hG, hO⟩ := hrel
  have hlj : (ivs (unbits n j)).length = j := by rw [ivs_length, unbits_length]
  obtain ⟨A1, c1, rfl, hr1, hA1⟩ := hG.formN hlj
  have HG := Lib.hid hG
  have HOO := Lib.hid hO
  have HR1 := Lib.hid hr1
  have HA1 := Lib.hid hA1
  have HLJ := Lib.hid hlj
  clear hG hO hr1 hA1 hlj
  by_cases hlt : j < P
  · have hlt2 : (j : Int) < (P : Int) := by omega
    have hs1 : 0 ≤ (j : Int) := by omega
    have hs3 : ((j : Int)).toNat = j := by omega
    have hbit := shr_bit n j hnlt
    have hmin : min j 64 = j := by omega
    obtain ⟨zb, hzb⟩ : ∃ z : Int, ((n / 2 ^ j % 2 : Nat) : Int) = z := ⟨_, rfl⟩
    rw [hzb] at hbit
    have HZB := Lib.hid hzb
    clear hzb
    go_wp2_with (first
      | (at_builtin; refine wpList_append_row1 rfl (.tmp 12) (.tmp 17) 52 rfl w.heap.size 3 i1 _ 8 Try.underlying52 hi1 hy0 hy1 hy2 rfl (.slice A1 j c1) j (ivs (unbits n j)) rfl (HG.out.own ((Only.refl _ _).alloc _) HLJ.out) _ 1 1 (ivs [zb]) rfl (ins_built _ [zb] _ 1 rfl (by omega)) (ivs_one _) (by unfold maxLen; omega) (by omega) (HG.out.base_le ((Only.refl _ _).alloc _)) ?_; intro v1 w3 hown1 hgr1 hat1)
      | fail)
    go_roundg (gk - 1)
    case measure => omega
    case rel =>
      have hG7 := HG.out.keep0 ((Only.refl [] wr).alloc (.cells #[.int .i64 zb] 3))
      obtain ⟨hG9, hO9⟩ := hG7.grown (HOO.out.alloc (.cells #[.int .i64 zb] 3)) rfl hown1 (by rw [List.length_append, HLJ.out]; rfl) hgr1
      refine ⟨j + 1, by omega, by go_num, ?_, hO9⟩
      rw [unbits_succ, HZB.out]
      simpa [ivs] using hG9
  · obtain rfl : j = P := by omega
    go_wp2
    go_ret
    exact ⟨A1, c1, rfl, HR1.out, fun a ha => (HA1.out a ha).1, HOO.out⟩

set_option maxRecDepth 100000 in
set_option maxHeartbeats 16000000 in
theorem ref_region_dec_any (b s l : Int) (A : Option Addr) (n c : Nat) (bs : List UInt8) (w : World) (hc : CfOk b s l) (hi : Bys w A n c bs) :
    Calls Try.prog 63 #[.agg #[.int .i64 b, .int .i64 s, .int .i64 l], .slice A n c] w (RgSays w (decRg b s l bs) 2) := by
  have hres : Try.f63.results = #[.cell 4 90, .tmp 5] := by kernel_rfl
  have HRES := Lib.hid hres
  obtain ⟨i0, hi0, hz0, hz1, hz2⟩ := info_parts Try.infoUse
  obtain ⟨sN, rfl⟩ : ∃ sN : Nat, s = (sN : Int) := ⟨s.toNat, by unfold CfOk at hc; omega⟩
  have hsN : sN ≤ 32 := by unfold CfOk at hc; omega
  have hlen := hi.len
  rw [bvs_length] at hlen
  have HI := Lib.hid hi
  have HL := Lib.hid hlen
  have HC := Lib.hid hc
  have hpg := pgs_bounds hc
  have hPN : pgs b = (pgN b : Int) := by unfold pgN; omega
  obtain ⟨hrl, hr2, hr4, _⟩ := rlN_eq hc
  have hT : rln (sN : Int) * 64 = ((rgT (sN : Int) : Nat) : Int) := by unfold rgT; omega
  have hTb : 128 ≤ rgT (sN : Int) ∧ rgT (sN : Int) ≤ 256 := by unfold rgT; omega
  have hw1 := IntWalk.i64_in (rln (sN : Int) * 64) (by omega)
  obtain ⟨T, hTT⟩ : ∃ T, rgT (sN : Int) = T := ⟨_, rfl⟩
  rw [hTT] at hT hTb
  have hbegun : ¬ (bs.length = T ∧ bs[0]? = some 75 ∧ bs[1]? = some 67) → decRg b (sN : Int) l bs = none := fun h => decRg_begun hc (by rw [hTT]; exact h)
  have HBEG := Lib.hid hbegun
  have HT := Lib.hid hT
  obtain ⟨st, hst⟩ : ∃ x : Bool, decide (bs.length = T ∧ bs[0]? = some (75 : UInt8) ∧ bs[1]? = some (67 : UInt8)) = x := ⟨_, rfl⟩
  have HST0 := Lib.hid hst
  obtain ⟨x0, hx0⟩ : ∃ x : Int, ((getN bs (rgK0 bs) 4 : Nat) : Int) = x := ⟨_, rfl⟩
  have HV0 := Lib.hid hx0
  obtain ⟨x1, hx1⟩ : ∃ x : Int, ((getN bs (rgK1 bs) 4 : Nat) : Int) = x := ⟨_, rfl⟩
  have HV1 := Lib.hid hx1
  obtain ⟨x2, hx2⟩ : ∃ x : Int, ((getN bs (rgK2 bs) 1 : Nat) : Int) = x := ⟨_, rfl⟩
  have HV2 := Lib.hid hx2
  obtain ⟨x3, hx3⟩ : ∃ x : Int, ((getN bs (rgK3 bs) 4 : Nat) : Int) = x := ⟨_, rfl⟩
  have HV3 := Lib.hid hx3
  obtain ⟨x4, hx4⟩ : ∃ x : Int, ((getN bs (rgK4 bs) 4 : Nat) : Int) = x := ⟨_, rfl⟩
  have HV4 := Lib.hid hx4
  obtain ⟨x5, hx5⟩ : ∃ x : Int, ((getN bs (rgK5 bs) 4 : Nat) : Int) = x := ⟨_, rfl⟩
  have HV5 := Lib.hid hx5
  obtain ⟨x6, hx6⟩ : ∃ x : Int, ((getN bs (rgK6 bs) 1 : Nat) : Int) = x := ⟨_, rfl⟩
  have HV6 := Lib.hid hx6
  obtain ⟨x7, hx7⟩ : ∃ x : Int, ((getN bs (rgK7 bs) 1 : Nat) : Int) = x := ⟨_, rfl⟩
  have HV7 := Lib.hid hx7
  obtain ⟨x8, hx8⟩ : ∃ x : Int, ((getN bs (rgK8 bs) 4 : Nat) : Int) = x := ⟨_, rfl⟩
  have HV8 := Lib.hid hx8
  obtain ⟨x9, hx9⟩ : ∃ x : Int, ((getN bs (rgK9 bs) 4 : Nat) : Int) = x := ⟨_, rfl⟩
  have HV9 := Lib.hid hx9
  obtain ⟨x10, hx10⟩ : ∃ x : Int, ((getN bs (rgK10 bs) 4 : Nat) : Int) = x := ⟨_, rfl⟩
  have HV10 := Lib.hid hx10
  clear hi hc hres hst hbegun hTT hrl hr2 hr4 hx0 hx1 hx2 hx3 hx4 hx5 hx6 hx7 hx8 hx9 hx10
  have hB1 := (Own.new (w.alloc (.cells #[.int .i64 b, .int .i64 (sN : Int), .int .i64 l] 29)) #[.int .i64 0, .int .i64 0, .int .i64 0, .int .i64 0, .int .i64 0, .int .i64 0, .int .i64 0, .int .i64 0, .int .i64 0, .int .i64 0, .int .i64 0, .slice none 0 0, .slice none 0 0, .slice none 0 0] 90).alloc (.cells #[.int .i64 0, .int .i64 0, .int .i64 0, .int .i64 0, .int .i64 0, .int .i64 0, .int .i64 0, .int .i64 0, .int .i64 0, .int .i64 0, .int .i64 0, .slice none 0 0, .slice none 0 0, .slice none 0 0] 90)
  have hB2 := Own.new ((w.alloc (.cells #[.int .i64 b, .int .i64 (sN : Int), .int .i64 l] 29)).alloc (.cells #[.int .i64 0, .int .i64 0, .int .i64 0, .int .i64 0, .int .i64 0, .int .i64 0, .int .i64 0, .int .i64 0, .int .i64 0, .int .i64 0, .int .i64 0, .slice none 0 0, .slice none 0 0, .slice none 0 0] 90)) #[.int .i64 0, .int .i64 0, .int .i64 0, .int .i64 0, .int .i64 0, .int .i64 0, .int .i64 0, .int .i64 0, .int .i64 0, .int .i64 0, .int .i64 0, .slice none 0 0, .slice none 0 0, .slice none 0 0] 90
  have hg0 := ((Own.new w #[.int .i64 b, .int .i64 (sN : Int), .int .i64 l] 29).alloc (.cells #[.int .i64 0, .int .i64 0, .int .i64 0, .int .i64 0, .int .i64 0, .int .i64 0, .int .i64 0, .int .i64 0, .int .i64 0, .int .i64 0, .int .i64 0, .slice none 0 0, .slice none 0 0, .slice none 0 0] 90)).alloc (.cells #[.int .i64 0, .int .i64 0, .int .i64 0, .int .i64 0, .int .i64 0, .int .i64 0, .int .i64 0, .int .i64 0, .int .i64 0, .int .i64 0, .int .i64 0, .slice none 0 0, .slice none 0 0, .slice none 0 0] 90)
  have hs1 : (w.alloc (.cells #[.int .i64 b, .int .i64 (sN : Int), .int .i64 l] 29)).heap.size = w.heap.size + 1 := by simp
  have hs2 : ((w.alloc (.cells #[.int .i64 b, .int .i64 (sN : Int), .int .i64 l] 29)).alloc (.cells #[.int .i64 0, .int .i64 0, .int .i64 0, .int .i64 0, .int .i64 0, .int .i64 0, .int .i64 0, .int .i64 0, .int .i64 0, .int .i64 0, .int .i64 0, .slice none 0 0, .slice none 0 0, .slice none 0 0] 90)).heap.size = w.heap.size + 1 + 1 := by simp
  have hs3 : (((w.alloc (.cells #[.int .i64 b, .int .i64 (sN : Int), .int .i64 l] 29)).alloc (.cells #[.int .i64 0, .int .i64 0, .int .i64 0, .int .i64 0, .int .i64 0, .int .i64 0, .int .i64 0, .int .i64 0, .int .i64 0, .int .i64 0, .int .i64 0, .slice none 0 0, .slice none 0 0, .slice none 0 0] 90)).alloc (.cells #[.int .i64 0, .int .i64 0, .int .i64 0, .int .i64 0, .int .i64 0, .int .i64 0, .int .i64 0, .int .i64 0, .int .i64 0, .int .i64 0, .int .i64 0, .slice none 0 0, .slice none 0 0, .slice none 0 0] 90)).heap.size = w.heap.size + 1 + 1 + 1 := by simp
  rw [hs1] at hB1
  rw [hs2] at hB2
  have hG : GeoAt (((w.alloc (.cells #[.int .i64 b, .int .i64 (sN : Int), .int .i64 l] 29)).alloc (.cells #[.int .i64 0, .int .i64 0, .int .i64 0, .int .i64 0, .int .i64 0, .int .i64 0, .int .i64 0, .int .i64 0, .int .i64 0, .int .i64 0, .int .i64 0, .slice none 0 0, .slice none 0 0, .slice none 0 0] 90)).alloc (.cells #[.int .i64 0, .int .i64 0, .int .i64 0, .int .i64 0, .int .i64 0, .int .i64 0, .int .i64 0, .int .i64 0, .int .i64 0, .int .i64 0, .int .i64 0, .slice none 0 0, .slice none 0 0, .slice none 0 0] 90)) w.heap.size b (sN : Int) l := ⟨hg0.cell 0 (by simp), hg0.cell 1 (by simp), hg0.cell 2 (by simp)⟩
  have hO0 := (((Only.refl [] w).alloc (.cells #[.int .i64 b, .int .i64 (sN : Int), .int .i64 l] 29)).alloc (.cells #[.int .i64 0, .int .i64 0, .int .i64 0, .int .i64 0, .int .i64 0, .int .i64 0, .int .i64 0, .int .i64 0, .int .i64 0, .int .i64 0, .int .i64 0, .slice none 0 0, .slice none 0 0, .slice none 0 0] 90)).alloc (.cells #[.int .i64 0, .int .i64 0, .int .i64 0, .int .i64 0, .int .i64 0, .int .i64 0, .int .i64 0, .int .i64 0, .int .i64 0, .int .i64 0, .int .i64 0, .slice none 0 0, .slice none 0 0, .slice none 0 0] 90)
  clear hg0 hs1 hs2
  go_enter Try.func63, Try.ntmps63
  go_wp2_with fail
  generalize hwa : ((w.alloc (.cells #[.int .i64 b, .int .i64 (sN : Int), .int .i64 l] 29)).alloc (.cells #[.int .i64 0, .int .i64 0, .int .i64 0, .int .i64 0, .int .i64 0, .int .i64 0, .int .i64 0, .int .i64 0, .int .i64 0, .int .i64 0, .int .i64 0, .slice none 0 0, .slice none 0 0, .slice none 0 0] 90)).alloc (.cells #[.int .i64 0, .int .i64 0, .int .i64 0, .int .i64 0, .int .i64 0, .int .i64 0, .int .i64 0, .int .i64 0, .int .i64 0, .int .i64 0, .int .i64 0, .slice none 0 0, .slice none 0 0, .slice none 0 0] 90) = w0 at *
  clear hwa
  generalize hce : w.heap.size = cq at *
  generalize hze : cq + 1 = z at *
  generalize hfe : z + 1 = f at *
  refine (ref_rlen_any b _ l _ HC.out).mono ?_
  rintro en w1 ⟨rfl, hO1⟩
  have HB1 := Lib.hid (hB1.keep0 hO1)
  have HB2 := Lib.hid (hB2.keep0 hO1)
  have HG1 := Lib.hid (hG.keep0 hO1)
  have HO1 := Lib.hid (hO0.trans' hO1)
  have hl1 : cq + 3 ≤ w1.heap.size := by have := hO1.size; omega
  have gc0 := HG1.out.c0
  have gc1 := HG1.out.c1
  have gc2 := HG1.out.c2
  clear hB1 hB2 hG hO0 hO1 hs3
  go_wp2_with fail
  refine (ref_starts_any A n c bs T 75 67 T 75 67 _ (by exact HI.out.keep0 HO1.out) rfl rfl rfl (by omega)).mono ?_
  rintro en w2 ⟨rfl, rfl⟩
  rw [HST0.out]
  cases st with
  | false =>
    have hno : decRg b (sN : Int) l bs = none := HBEG.out (of_decide_eq_false HST0.out)
    have HNO := Lib.hid hno
    have hzw : w.heap.size ≤ z := by omega
    clear hno
    have z0 := HB1.out.cell 0 (by simp)
    have z1 := HB1.out.cell 1 (by simp)
    have z2 := HB1.out.cell 2 (by simp)
    have z3 := HB1.out.cell 3 (by simp)
    have z4 := HB1.out.cell 4 (by simp)
    have z5 := HB1.out.cell 5 (by simp)
    have z6 := HB1.out.cell 6 (by simp)
    have z7 := HB1.out.cell 7 (by simp)
    have z8 := HB1.out.cell 8 (by simp)
    have z9 := HB1.out.cell 9 (by simp)
    have z10 := HB1.out.cell 10 (by simp)
    have z11 := HB1.out.cell 11 (by simp)
    have z12 := HB1.out.cell 12 (by simp)
    have z13 := HB1.out.cell 13 (by simp)
    have y0 := HB2.out.cell 0 (by simp)
    have y1 := HB2.out.cell 1 (by simp)
    have y2 := HB2.out.cell 2 (by simp)
    have y3 := HB2.out.cell 3 (by simp)
    have y4 := HB2.out.cell 4 (by simp)
    have y5 := HB2.out.cell 5 (by simp)
    have y6 := HB2.out.cell 6 (by simp)
    have y7 := HB2.out.cell 7 (by simp)
    have y8 := HB2.out.cell 8 (by simp)
    have y9 := HB2.out.cell 9 (by simp)
    have y10 := HB2.out.cell 10 (by simp)
    have y11 := HB2.out.cell 11 (by simp)
    have y12 := HB2.out.cell 12 (by simp)
    have y13 := HB2.out.cell 13 (by simp)
    have f0 := HB1.out.frozen 0
    have f1 := HB1.out.frozen 1
    have f2 := HB1.out.frozen 2
    have f3 := HB1.out.frozen 3
    have f4 := HB1.out.frozen 4
    have f5 := HB1.out.frozen 5
    have f6 := HB1.out.frozen 6
    have f7 := HB1.out.frozen 7
    have f8 := HB1.out.frozen 8
    have f9 := HB1.out.frozen 9
    have f10 := HB1.out.frozen 10
    have f11 := HB1.out.frozen 11
    have f12 := HB1.out.frozen 12
    have f13 := HB1.out.frozen 13
    have lz := HB1.out.lt
    have ly := HB2.out.lt
    simp only [List.getElem_cons_zero, List.getElem_cons_succ] at z0 z1 z2 z3 z4 z5 z6 z7 z8 z9 z10 z11 z12 z13 y0 y1 y2 y3 y4 y5 y6 y7 y8 y9 y10 y11 y12 y13
    go_wp2
    (try simp only [Exit.inBlock, Exit.then])
    refine bodyPost_ret (v := .tuple #[.agg #[.int .i64 0, .int .i64 0, .int .i64 0, .int .i64 0, .int .i64 0, .int .i64 0, .int .i64 0, .int .i64 0, .int .i64 0, .int .i64 0, .int .i64 0, .slice none 0 0, .slice none 0 0, .slice none 0 0], .int .i64 2]) ?_ rfl (RgSays.no HNO.out ?_)
    · simp only [results, HRES.out]
      go_simp
    · (repeat' first | (with_reducible refine Only.set ?_ (.inr hzw) _) | (with_reducible exact HO1.out))
  | true =>
    obtain ⟨hbl, _, _⟩ := of_decide_eq_true HST0.out
    have hn65 : n ≤ 65536 := by omega
    go_wp2_with fail
    refine (ref_from_any A n c bs _ (by exact HI.out.keep0 HO1.out) hn65).mono ?_
    rintro en w2 ⟨p, g, rfl, hp, hgr, hr1, hO2⟩
    clear hT hw1
    have hcz := hr1.lp
    have hpz := hr1.pz 1
    have hpk := hr1.fk
    have hk0 : rgK0 bs = 2 := (took_at (bs := bs) (k := 0) (n := 2) (by omega)).2
    have HD0 : Hid (DecR w (w2.setCell ⟨p, 1, none⟩ (.int .i64 ((2 : Nat) : Int))) p g f z cq (rgK0 bs) b (sN : Int) l bs [.int .i64 0, .int .i64 0, .int .i64 0, .int .i64 0, .int .i64 0, .int .i64 0, .int .i64 0, .int .i64 0, .int .i64 0, .int .i64 0, .int .i64 0, .slice none 0 0, .slice none 0 0, .slice none 0 0]) := Lib.hid (by
      rw [hk0]
      exact ⟨hr1.place 2 (by omega), (HB2.out.keep0 hO2).far (by show p ≠ f; omega) _, (HB1.out.keep0 hO2).far (by show p ≠ z; omega) _, (HG1.out.keep0 hO2).keepP ((Only.refl [p] w2).set (by simp) _) (by simp; omega), (HO1.out.trans' hO2).set (.inr (by show w.heap.size ≤ p; omega)) _, by omega, by omega, by omega, by omega, by omega, by omega, by omega, by omega, by omega⟩)
    have e2 : ((2 : Nat) : Int) = 2 := rfl
    rw [e2] at HD0
    have hlp : p < w2.heap.size := hcz
    clear hr1 hO2 e2 HB1 HB2 HG1 HO1 gc0 gc1 gc2 hk0 HST0 HBEG
    go_wp2_with fail
    generalize w2.setCell ⟨p, 1, none⟩ (.int .i64 2) = v0 at *
    clear hpz hpk hcz hp hgr hlp hl1 hn65
    refine (ref_num_all p g (rgK0 bs) bs 4 _ (by exact HD0.out.row)).mono ?_
    rintro en v1 ⟨rfl, hr, hO⟩
    rw [HV0.out]
    have HD1 : Hid (DecR w v1 p g f z cq (rgK1 bs) b (sN : Int) l bs [.int .i64 0, .int .i64 0, .int .i64 0, .int .i64 0, .int .i64 0, .int .i64 0, .int .i64 0, .int .i64 0, .int .i64 0, .int .i64 0, .int .i64 0, .slice none 0 0, .slice none 0 0, .slice none 0 0]) := Lib.hid (HD0.out.got hr hO)
    clear hr hO HD0
    have bq := HD1.out.box.cell 0 (by simp)
    simp only [List.getElem_cons_zero, List.getElem_cons_succ] at bq
    have fq := HD1.out.box.frozen 0
    have lq := HD1.out.box.lt
    have hdp := HD1.out.put 0 (.int .i64 x0)
    simp only [List.set_cons_zero, List.set_cons_succ] at hdp
    have HD2 := Lib.hid hdp
    go_wp2_with fail
    clear hdp bq fq lq HD1
    refine (ref_num_all p g (rgK1 bs) bs 4 _ (by exact HD2.out.row)).mono ?_
    rintro en v3 ⟨rfl, hr, hO⟩
    rw [HV1.out]
    have HD3 : Hid (DecR w v3 p g f z cq (rgK2 bs) b (sN : Int) l bs [.int .i64 x0, .int .i64 0, .int .i64 0, .int .i64 0, .int .i64 0, .int .i64 0, .int .i64 0, .int .i64 0, .int .i64 0, .int .i64 0, .int .i64 0, .slice none 0 0, .slice none 0 0, .slice none 0 0]) := Lib.hid (HD2.out.got hr hO)
    clear hr hO HD2
    have bq := HD3.out.box.cell 1 (by simp)
    simp only [List.getElem_cons_zero, List.getElem_cons_succ] at bq
    have fq := HD3.out.box.frozen 1
    have lq := HD3.out.box.lt
    have hdp := HD3.out.put 1 (.int .i64 x1)
    simp only [List.set_cons_zero, List.set_cons_succ] at hdp
    have HD4 := Lib.hid hdp
    go_wp2_with fail
    clear hdp bq fq lq HD3
    refine (ref_num_all p g (rgK2 bs) bs 1 _ (by exact HD4.out.row)).mono ?_
    rintro en v5 ⟨rfl, hr, hO⟩
    rw [HV2.out]
    have HD5 : Hid (DecR w v5 p g f z cq (rgK3 bs) b (sN : Int) l bs [.int .i64 x0, .int .i64 x1, .int .i64 0, .int .i64 0, .int .i64 0, .int .i64 0, .int .i64 0, .int .i64 0, .int .i64 0, .int .i64 0, .int .i64 0, .slice none 0 0, .slice none 0 0, .slice none 0 0]) := Lib.hid (HD4.out.got hr hO)
    clear hr hO HD4
    have bq := HD5.out.box.cell 2 (by simp)
    simp only [List.getElem_cons_zero, List.getElem_cons_succ] at bq
    have fq := HD5.out.box.frozen 2
    have lq := HD5.out.box.lt
    have hdp := HD5.out.put 2 (.int .i64 x2)
    simp only [List.set_cons_zero, List.set_cons_succ] at hdp
    have HD6 := Lib.hid hdp
    go_wp2_with fail
    clear hdp bq fq lq HD5
    refine (ref_num_all p g (rgK3 bs) bs 4 _ (by exact HD6.out.row)).mono ?_
    rintro en v7 ⟨rfl, hr, hO⟩
    rw [HV3.out]
    have HD7 : Hid (DecR w v7 p g f z cq (rgK4 bs) b (sN : Int) l bs [.int .i64 x0, .int .i64 x1, .int .i64 x2, .int .i64 0, .int .i64 0, .int .i64 0, .int .i64 0, .int .i64 0, .int .i64 0, .int .i64 0, .int .i64 0, .slice none 0 0, .slice none 0 0, .slice none 0 0]) := Lib.hid (HD6.out.got hr hO)
    clear hr hO HD6
    have bq := HD7.out.box.cell 3 (by simp)
    simp only [List.getElem_cons_zero, List.getElem_cons_succ] at bq
    have fq := HD7.out.box.frozen 3
    have lq := HD7.out.box.lt
    have hdp := HD7.out.put 3 (.int .i64 x3)
    simp only [List.set_cons_zero, List.set_cons_succ] at hdp
    have HD8 := Lib.hid hdp
    go_wp2_with fail
    clear hdp bq fq lq HD7
    refine (ref_num_all p g (rgK4 bs) bs 4 _ (by exact HD8.out.row)).mono ?_
    rintro en v9 ⟨rfl, hr, hO⟩
    rw [HV4.out]
    have HD9 : Hid (DecR w v9 p g f z cq (rgK5 bs) b (sN : Int) l bs [.int .i64 x0, .int .i64 x1, .int .i64 x2, .int .i64 x3, .int .i64 0, .int .i64 0, .int .i64 0, .int .i64 0, .int .i64 0, .int .i64 0, .int .i64 0, .slice none 0 0, .slice none 0 0, .slice none 0 0]) := Lib.hid (HD8.out.got hr hO)
    clear hr hO HD8
    have bq := HD9.out.box.cell 4 (by simp)
    simp only [List.getElem_cons_zero, List.getElem_cons_succ] at bq
    have fq := HD9.out.box.frozen 4
    have lq := HD9.out.box.lt
    have hdp := HD9.out.put 4 (.int .i64 x4)
    simp only [List.set_cons_zero, List.set_cons_succ] at hdp
    have HD10 := Lib.hid hdp
    go_wp2_with fail
    clear hdp bq fq lq HD9
    refine (ref_num_all p g (rgK5 bs) bs 4 _ (by exact HD10.out.row)).mono ?_
    rintro en v11 ⟨rfl, hr, hO⟩
    rw [HV5.out]
    have HD11 : Hid (DecR w v11 p g f z cq (rgK6 bs) b (sN : Int) l bs [.int .i64 x0, .int .i64 x1, .int .i64 x2, .int .i64 x3, .int .i64 x4, .int .i64 0, .int .i64 0, .int .i64 0, .int .i64 0, .int .i64 0, .int .i64 0, .slice none 0 0, .slice none 0 0, .slice none 0 0]) := Lib.hid (HD10.out.got hr hO)
    clear hr hO HD10
    have bq := HD11.out.box.cell 5 (by simp)
    simp only [List.getElem_cons_zero, List.getElem_cons_succ] at bq
    have fq := HD11.out.box.frozen 5
    have lq := HD11.out.box.lt
    have hdp := HD11.out.put 5 (.int .i64 x5)
    simp only [List.set_cons_zero, List.set_cons_succ] at hdp
    have HD12 := Lib.hid hdp
    go_wp2_with fail
    clear hdp bq fq lq HD11
    refine (ref_num_all p g (rgK6 bs) bs 1 _ (by exact HD12.out.row)).mono ?_
    rintro en v13 ⟨rfl, hr, hO⟩
    rw [HV6.out]
    have HD13 : Hid (DecR w v13 p g f z cq (rgK7 bs) b (sN : Int) l bs [.int .i64 x0, .int .i64 x1, .int .i64 x2, .int .i64 x3, .int .i64 x4, .int .i64 x5, .int .i64 0, .int .i64 0, .int .i64 0, .int .i64 0, .int .i64 0, .slice none 0 0, .slice none 0 0, .slice none 0 0]) := Lib.hid (HD12.out.got hr hO)
    clear hr hO HD12
    have bq := HD13.out.box.cell 6 (by simp)
    simp only [List.getElem_cons_zero, List.getElem_cons_succ] at bq
    have fq := HD13.out.box.frozen 6
    have lq := HD13.out.box.lt
    have hdp := HD13.out.put 6 (.int .i64 x6)
    simp only [List.set_cons_zero, List.set_cons_succ] at hdp
    have HD14 := Lib.hid hdp
    go_wp2_with fail
    clear hdp bq fq lq HD13
    refine (ref_num_all p g (rgK7 bs) bs 1 _ (by exact HD14.out.row)).mono ?_
    rintro en v15 ⟨rfl, hr, hO⟩
    rw [HV7.out]
    have HD15 : Hid (DecR w v15 p g f z cq (rgK8 bs) b (sN : Int) l bs [.int .i64 x0, .int .i64 x1, .int .i64 x2, .int .i64 x3, .int .i64 x4, .int .i64 x5, .int .i64 x6, .int .i64 0, .int .i64 0, .int .i64 0, .int .i64 0, .slice none 0 0, .slice none 0 0, .slice none 0 0]) := Lib.hid (HD14.out.got hr hO)
    clear hr hO HD14
    have bq := HD15.out.box.cell 7 (by simp)
    simp only [List.getElem_cons_zero, List.getElem_cons_succ] at bq
    have fq := HD15.out.box.frozen 7
    have lq := HD15.out.box.lt
    have hdp := HD15.out.put 7 (.int .i64 x7)
    simp only [List.set_cons_zero, List.set_cons_succ] at hdp
    have HD16 := Lib.hid hdp
    go_wp2_with fail
    clear hdp bq fq lq HD15
    refine (ref_num_all p g (rgK8 bs) bs 4 _ (by exact HD16.out.row)).mono ?_
    rintro en v17 ⟨rfl, hr, hO⟩
    rw [HV8.out]
    have HD17 : Hid (DecR w v17 p g f z cq (rgK9 bs) b (sN : Int) l bs [.int .i64 x0, .int .i64 x1, .int .i64 x2, .int .i64 x3, .int .i64 x4, .int .i64 x5, .int .i64 x6, .int .i64 x7, .int .i64 0, .int .i64 0, .int .i64 0, .slice none 0 0, .slice none 0 0, .slice none 0 0]) := Lib.hid (HD16.out.got hr hO)
    clear hr hO HD16
    have bq := HD17.out.box.cell 8 (by simp)
    simp only [List.getElem_cons_zero, List.getElem_cons_succ] at bq
    have fq := HD17.out.box.frozen 8
    have lq := HD17.out.box.lt
    have hdp := HD17.out.put 8 (.int .i64 x8)
    simp only [List.set_cons_zero, List.set_cons_succ] at hdp
    have HD18 := Lib.hid hdp
    go_wp2_with fail
    clear hdp bq fq lq HD17
    refine (ref_num_all p g (rgK9 bs) bs 4 _ (by exact HD18.out.row)).mono ?_
    rintro en v19 ⟨rfl, hr, hO⟩
    rw [HV9.out]
    have HD19 : Hid (DecR w v19 p g f z cq (rgK10 bs) b (sN : Int) l bs [.int .i64 x0, .int .i64 x1, .int .i64 x2, .int .i64 x3, .int .i64 x4, .int .i64 x5, .int .i64 x6, .int .i64 x7, .int .i64 x8, .int .i64 0, .int .i64 0, .slice none 0 0, .slice none 0 0, .slice none 0 0]) := Lib.hid (HD18.out.got hr hO)
    clear hr hO HD18
    have bq := HD19.out.box.cell 9 (by simp)
    simp only [List.getElem_cons_zero, List.getElem_cons_succ] at bq
    have fq := HD19.out.box.frozen 9
    have lq := HD19.out.box.lt
    have hdp := HD19.out.put 9 (.int .i64 x9)
    simp only [List.set_cons_zero, List.set_cons_succ] at hdp
    have HD20 := Lib.hid hdp
    go_wp2_with fail
    clear hdp bq fq lq HD19
    refine (ref_num_all p g (rgK10 bs) bs 4 _ (by exact HD20.out.row)).mono ?_
    rintro en v21 ⟨rfl, hr, hO⟩
    rw [HV10.out]
    have HD21 : Hid (DecR w v21 p g f z cq (rgK11 bs) b (sN : Int) l bs [.int .i64 x0, .int .i64 x1, .int .i64 x2, .int .i64 x3, .int .i64 x4, .int .i64 x5, .int .i64 x6, .int .i64 x7, .int .i64 x8, .int .i64 x9, .int .i64 0, .slice none 0 0, .slice none 0 0, .slice none 0 0]) := Lib.hid (HD20.out.got hr hO)
    clear hr hO HD20
    have bq := HD21.out.box.cell 10 (by simp)
    simp only [List.getElem_cons_zero, List.getElem_cons_succ] at bq
    have fq := HD21.out.box.frozen 10
    have lq := HD21.out.box.lt
    have hdp := HD21.out.put 10 (.int .i64 x10)
    simp only [List.set_cons_zero, List.set_cons_succ] at hdp
    have HD22 := Lib.hid hdp
    go_upto_region 17 with (fail)
    clear hdp bq fq lq HD21
    have hP60 : pgN b ≤ 60 := by omega
    obtain ⟨P, hPP⟩ : ∃ P, pgN b = P := ⟨_, rfl⟩
    rw [hPP] at hPN hP60
    have HPP := Lib.hid hPP
    have HPG : Hid (∀ W : World, Calls Try.prog 132 #[.agg #[.int .i64 b, .int .i64 (sN : Int), .int .i64 l]] W fun en w' => en = .returned (.int .i64 (P : Nat)) ∧ Only [] W w') := Lib.hid fun W => by
      have h := ref_pages_any b (sN : Int) l W HC.out
      rw [hPN] at h
      exact h
    have hbyte : ∀ k, getN bs k 1 < 4294967296 := fun k => by
      unfold getN
      split
      · have h1 := num_lt ((bs.drop k).take (1 : Int).toNat)
        have h2 : (256 : Nat) ^ ((bs.drop k).take (1 : Int).toNat).length ≤ 256 ^ 1 := Nat.pow_le_pow_right (by decide) (by simp <;> omega)
        have h3 : (256 : Nat) ^ 1 = 256 := rfl
        omega
      · omega
    obtain ⟨ub, hub⟩ : ∃ u, unbits (getN bs (rgK11 bs) 1) P = u := ⟨_, rfl⟩
    obtain ⟨uo, huo⟩ : ∃ u, unbits (getN bs (rgK12 bs) 1) P = u := ⟨_, rfl⟩
    have HUB := Lib.hid hub
    have HUO := Lib.hid huo
    have HBY := Lib.hid hbyte
    clear hPP hub huo hPN hpg hbyte
    have HDs17 := Lib.hid HD22.out.drew
    go_wp2_with fail
    refine wp_region_held_drew (S := (fun w' => w'.cell? ⟨cq, 0, none⟩ = some (.int .i64 b) ∧ w'.cell? ⟨cq, 1, none⟩ = some (.int .i64 (sN : Int)) ∧ w'.cell? ⟨cq, 2, none⟩ = some (.int .i64 l))) (by kernel_rfl) ⟨HDs17.out.cfg.c0, HDs17.out.cfg.c1, HDs17.out.cfg.c2⟩ (fun hSw0 => ?_)
    refine wpAnyH_take (i := 0) (oi := ⟨some 62, _, _, _, _, _⟩) (v := ?_) rfl (by kernel_rfl) (by kernel_rfl) (by kernel_rfl) (fun _ _ _ h => h) (Or.inl ⟨by rfl, ?_⟩) (by assumption) ?_
    rotate_left
    · intro w hSw
      obtain ⟨hS0, hS1, hS2⟩ := hSw
      go_simp
      all_goals (try with_reducible rfl)
    (try simp only [Act.put, List.setIfInBounds_toArray, List.set_cons_zero, List.set_cons_succ])
    refine wpAnyH_take (i := 2) (oi := ⟨some 64, _, _, _, _, _⟩) (v := ?_) rfl (by kernel_rfl) (by kernel_rfl) (by kernel_rfl) (fun _ _ _ h => h) (Or.inl ⟨by rfl, ?_⟩) (by assumption) ?_
    rotate_left
    · intro w hSw
      obtain ⟨hS0, hS1, hS2⟩ := hSw
      go_simp
      all_goals (try with_reducible rfl)
    (try simp only [Act.put, List.setIfInBounds_toArray, List.set_cons_zero, List.set_cons_succ])
    refine wpAnyH_ready (rs := [1]) (by kernel_rfl) (by simp) ?_
    refine AllReadyH.cons (o := ⟨some 63, _, _, _, _, _⟩) rfl (fun K hK => ?_) AllReadyH.nil
    go_simp
    refine (ref_num_all p g (rgK11 bs) bs 1 _ (by exact HDs17.out.row)).mono ?_
    rintro en u17x1 ⟨rfl, hr, hO⟩
    have HD17x1 : Hid (DecR w u17x1 p g f z cq (rgK12 bs) b (sN : Int) l bs [.int .i64 x0, .int .i64 x1, .int .i64 x2, .int .i64 x3, .int .i64 x4, .int .i64 x5, .int .i64 x6, .int .i64 x7, .int .i64 x8, .int .i64 x9, .int .i64 x10, .slice none 0 0, .slice none 0 0, .slice none 0 0]) := Lib.hid (HDs17.out.got hr hO)
    clear hr hO HDs17
    refine hK.out _ _ ⟨HD17x1.out.cfg.c0, HD17x1.out.cfg.c1, HD17x1.out.cfg.c2⟩ (fun hSn => ?_)
    clear hK K hSw0
    have hSw0 := hSn
    clear hSn
    (try simp only [Act.put, List.setIfInBounds_toArray, List.set_cons_zero, List.set_cons_succ])
    refine wpAnyH_ready (rs := [3]) (by kernel_rfl) (by simp) ?_
    refine AllReadyH.cons (o := ⟨some 65, _, _, _, _, _⟩) rfl (fun K hK => ?_) AllReadyH.nil
    go_simp
    refine (HPG.out _).mono ?_
    rintro en u17x2 ⟨rfl, hO⟩
    have HD17x2 := Lib.hid (HD17x1.out.keep0 hO)
    clear hO HD17x1
    refine hK.out _ _ ⟨HD17x2.out.cfg.c0, HD17x2.out.cfg.c1, HD17x2.out.cfg.c2⟩ (fun hSn => ?_)
    clear hK K hSw0
    have hSw0 := hSn
    clear hSn
    (try simp only [Act.put, List.setIfInBounds_toArray, List.set_cons_zero, List.set_cons_succ])
    refine wpAnyH_ready (rs := [4]) (by kernel_rfl) (by simp) ?_
    refine AllReadyH.cons (o := ⟨some 66, _, _, _, _, _⟩) rfl (fun K hK => ?_) AllReadyH.nil
    go_simp
    refine (ref_unbits_any _ P _ (HBY.out _) hP60).mono ?_
    rintro en u17x3 ⟨bA, bc, rfl, hi, hfr, hO⟩
    rw [HUB.out] at hi
    have HD17x3 := Lib.hid (HD17x2.out.keep0 hO)
    have HIB0 := Lib.hid hi
    have HN0 : Hid (∀ a, bA = some a → a.block ≠ p ∧ a.block ≠ f ∧ a.block ≠ z ∧ w.heap.size ≤ a.block) := by
      have h1 := HD17x2.out.row.lp
      have h2 := HD17x2.out.box.lt
      have h3 := HD17x2.out.out.lt
      have h4 := HD17x2.out.only.size
      exact Lib.hid (fun a ha => by have := hfr a ha; exact ⟨by omega, by omega, by omega, by omega⟩)
    clear hi hfr hO HD17x2
    refine hK.out _ _ ⟨HD17x3.out.cfg.c0, HD17x3.out.cfg.c1, HD17x3.out.cfg.c2⟩ (fun hSn => ?_)
    clear hK K hSw0
    have hSw0 := hSn
    clear hSn
    (try simp only [Act.put, List.setIfInBounds_toArray, List.set_cons_zero, List.set_cons_succ])
    refine wpAnyH_take (i := 5) (oi := ⟨some 67, _, _, _, _, _⟩) (v := ?_) rfl (by kernel_rfl) (by kernel_rfl) (by kernel_rfl) (fun _ _ _ h => h) (Or.inl ⟨by rfl, ?_⟩) (by assumption) ?_
    rotate_left
    · intro w hSw
      obtain ⟨hS0, hS1, hS2⟩ := hSw
      go_simp
      all_goals (try with_reducible rfl)
    (try simp only [Act.put, List.setIfInBounds_toArray, List.set_cons_zero, List.set_cons_succ])
    refine wpAnyH_ready (rs := [6]) (by kernel_rfl) (by simp) ?_
    refine AllReadyH.cons (o := ⟨none, _, _, _, _, _⟩) rfl (fun K hK => ?_) AllReadyH.nil
    have bq := HD17x3.out.box.cell 11 (by simp)
    simp only [List.getElem_cons_zero, List.getElem_cons_succ] at bq
    have fq := HD17x3.out.box.frozen 11
    have lq := HD17x3.out.box.lt
    go_simp
    have hdp := HD17x3.out.put 11 (.slice bA P bc)
    simp only [List.set_cons_zero, List.set_cons_succ] at hdp
    have HDe17 := Lib.hid hdp
    have HIBs := Lib.hid (HIB0.out.keep ((Only.refl [f] _).set (p := ⟨f, 11, none⟩) (by simp) (.slice bA P bc)) (fun a ha => by simpa using (HN0.out a ha).2.1))
    clear hdp bq fq lq HD17x3
    refine hK.out _ _ ⟨HDe17.out.cfg.c0, HDe17.out.cfg.c1, HDe17.out.cfg.c2⟩ (fun hSn => ?_)
    clear hK K hSw0
    have hSw0 := hSn
    clear hSn
    (try simp only [Act.put, List.setIfInBounds_toArray, List.set_cons_zero, List.set_cons_succ])
    refine wpAnyH_done (by kernel_rfl) ?_ _
    clear hSw0
    have HDs18 := Lib.hid HDe17.out.drew
    go_wp2_with fail
    refine wp_region_held_drew (S := (fun w' => w'.cell? ⟨cq, 0, none⟩ = some (.int .i64 b) ∧ w'.cell? ⟨cq, 1, none⟩ = some (.int .i64 (sN : Int)) ∧ w'.cell? ⟨cq, 2, none⟩ = some (.int .i64 l))) (by kernel_rfl) ⟨HDs18.out.cfg.c0, HDs18.out.cfg.c1, HDs18.out.cfg.c2⟩ (fun hSw0 => ?_)
    refine wpAnyH_take (i := 0) (oi := ⟨some 68, _, _, _, _, _⟩) (v := ?_) rfl (by kernel_rfl) (by kernel_rfl) (by kernel_rfl) (fun _ _ _ h => h) (Or.inl ⟨by rfl, ?_⟩) (by assumption) ?_
    rotate_left
    · intro w hSw
      obtain ⟨hS0, hS1, hS2⟩ := hSw
      go_simp
      all_goals (try with_reducible rfl)
    (try simp only [Act.put, List.setIfInBounds_toArray, List.set_cons_zero, List.set_cons_succ])
    refine wpAnyH_take (i := 2) (oi := ⟨some 70, _, _, _, _, _⟩) (v := ?_) rfl (by kernel_rfl) (by kernel_rfl) (by kernel_rfl) (fun _ _ _ h => h) (Or.inl ⟨by rfl, ?_⟩) (by assumption) ?_
    rotate_left
    · intro w hSw
      obtain ⟨hS0, hS1, hS2⟩ := hSw
      go_simp
      all_goals (try with_reducible rfl)
    (try simp only [Act.put, List.setIfInBounds_toArray, List.set_cons_zero, List.set_cons_succ])
    refine wpAnyH_ready (rs := [1]) (by kernel_rfl) (by simp) ?_
    refine AllReadyH.cons (o := ⟨some 69, _, _, _, _, _⟩) rfl (fun K hK => ?_) AllReadyH.nil
    go_simp
    refine (ref_num_all p g (rgK12 bs) bs 1 _ (by exact HDs18.out.row)).mono ?_
    rintro en u18x1 ⟨rfl, hr, hO⟩
    have HD18x1 : Hid (DecR w u18x1 p g f z cq (rgK13 bs) b (sN : Int) l bs [.int .i64 x0, .int .i64 x1, .int .i64 x2, .int .i64 x3, .int .i64 x4, .int .i64 x5, .int .i64 x6, .int .i64 x7, .int .i64 x8, .int .i64 x9, .int .i64 x10, .slice bA P bc, .slice none 0 0, .slice none 0 0]) := Lib.hid (HDs18.out.got hr hO)
    have HIB18x1 := Lib.hid (HIBs.out.drew.keep hO (fun a ha => by simpa using (HN0.out a ha).1))
    clear hr hO HDs18
    refine hK.out _ _ ⟨HD18x1.out.cfg.c0, HD18x1.out.cfg.c1, HD18x1.out.cfg.c2⟩ (fun hSn => ?_)
    clear hK K hSw0
    have hSw0 := hSn
    clear hSn
    (try simp only [Act.put, List.setIfInBounds_toArray, List.set_cons_zero, List.set_cons_succ])
    refine wpAnyH_ready (rs := [3]) (by kernel_rfl) (by simp) ?_
    refine AllReadyH.cons (o := ⟨some 71, _, _, _, _, _⟩) rfl (fun K hK => ?_) AllReadyH.nil
    go_simp
    refine (HPG.out _).mono ?_
    rintro en u18x2 ⟨rfl, hO⟩
    have HD18x2 := Lib.hid (HD18x1.out.keep0 hO)
    have HIB18x2 := Lib.hid (HIB18x1.out.keep0 hO)
    clear hO HD18x1
    refine hK.out _ _ ⟨HD18x2.out.cfg.c0, HD18x2.out.cfg.c1, HD18x2.out.cfg.c2⟩ (fun hSn => ?_)
    clear hK K hSw0
    have hSw0 := hSn
    clear hSn
    (try simp only [Act.put, List.setIfInBounds_toArray, List.set_cons_zero, List.set_cons_succ])
    refine wpAnyH_ready (rs := [4]) (by kernel_rfl) (by simp) ?_
    refine AllReadyH.cons (o := ⟨some 72, _, _, _, _, _⟩) rfl (fun K hK => ?_) AllReadyH.nil
    go_simp
    refine (ref_unbits_any _ P _ (HBY.out _) hP60).mono ?_
    rintro en u18x3 ⟨oA, oc, rfl, hi, hfr, hO⟩
    rw [HUO.out] at hi
    have HD18x3 := Lib.hid (HD18x2.out.keep0 hO)
    have HIO0 := Lib.hid hi
    have HN1 : Hid (∀ a, oA = some a → a.block ≠ p ∧ a.block ≠ f ∧ a.block ≠ z ∧ w.heap.size ≤ a.block) := by
      have h1 := HD18x2.out.row.lp
      have h2 := HD18x2.out.box.lt
      have h3 := HD18x2.out.out.lt
      have h4 := HD18x2.out.only.size
      exact Lib.hid (fun a ha => by have := hfr a ha; exact ⟨by omega, by omega, by omega, by omega⟩)
    have HIB18x3 := Lib.hid (HIB18x2.out.keep0 hO)
    clear hi hfr hO HD18x2
    refine hK.out _ _ ⟨HD18x3.out.cfg.c0, HD18x3.out.cfg.c1, HD18x3.out.cfg.c2⟩ (fun hSn => ?_)
    clear hK K hSw0
    have hSw0 := hSn
    clear hSn
    (try simp only [Act.put, List.setIfInBounds_toArray, List.set_cons_zero, List.set_cons_succ])
    refine wpAnyH_take (i := 5) (oi := ⟨some 73, _, _, _, _, _⟩) (v := ?_) rfl (by kernel_rfl) (by kernel_rfl) (by kernel_rfl) (fun _ _ _ h => h) (Or.inl ⟨by rfl, ?_⟩) (by assumption) ?_
    rotate_left
    · intro w hSw
      obtain ⟨hS0, hS1, hS2⟩ := hSw
      go_simp
      all_goals (try with_reducible rfl)
    (try simp only [Act.put, List.setIfInBounds_toArray, List.set_cons_zero, List.set_cons_succ])
    refine wpAnyH_ready (rs := [6]) (by kernel_rfl) (by simp) ?_
    refine AllReadyH.cons (o := ⟨none, _, _, _, _, _⟩) rfl (fun K hK => ?_) AllReadyH.nil
    have bq := HD18x3.out.box.cell 12 (by simp)
    simp only [List.getElem_cons_zero, List.getElem_cons_succ] at bq
    have fq := HD18x3.out.box.frozen 12
    have lq := HD18x3.out.box.lt
    go_simp
    have hdp := HD18x3.out.put 12 (.slice oA P oc)
    simp only [List.set_cons_zero, List.set_cons_succ] at hdp
    have HDe18 := Lib.hid hdp
    have HIOs := Lib.hid (HIO0.out.keep ((Only.refl [f] _).set (p := ⟨f, 12, none⟩) (by simp) (.slice oA P oc)) (fun a ha => by simpa using (HN1.out a ha).2.1))
    have HIBt := Lib.hid (HIB18x3.out.keep ((Only.refl [f] _).set (p := ⟨f, 12, none⟩) (by simp) (.slice oA P oc)) (fun a ha => by simpa using (HN0.out a ha).2.1))
    clear hdp bq fq lq HD18x3
    refine hK.out _ _ ⟨HDe18.out.cfg.c0, HDe18.out.cfg.c1, HDe18.out.cfg.c2⟩ (fun hSn => ?_)
    clear hK K hSw0
    have hSw0 := hSn
    clear hSn
    (try simp only [Act.put, List.setIfInBounds_toArray, List.set_cons_zero, List.set_cons_succ])
    refine wpAnyH_done (by kernel_rfl) ?_ _
    clear hSw0
    have HDc := HDe18
    have HIBc := HIBt
    have HIOc := HIOs
    have hvc := HDc.out.box.lt
    clear HDe18 HIBt HIOs HIBs HD22
    generalize u18x3.setCell ⟨f, 12, none⟩ (.slice oA P oc) = vc at *
    have hpvc := HDc.out.row.lp
    have hgvc := HDc.out.row.lg
    have hzvc := HDc.out.out.lt
    have hcvc : cq < vc.heap.size := HDc.out.cfg.lt
    have hwvc := HDc.out.only.size
    go_wp2_with fail
    go_loopg [8] sN (fun r i wr => ∃ (j : Nat) (A4 : Option Addr) (c4 : Nat), j + r = sN ∧ i = .int .i64 j ∧ DecR w wr p g f z cq (usPos bs (rgK13 bs) j) b (sN : Int) l bs [.int .i64 x0, .int .i64 x1, .int .i64 x2, .int .i64 x3, .int .i64 x4, .int .i64 x5, .int .i64 x6, .int .i64 x7, .int .i64 x8, .int .i64 x9, .int .i64 x10, .slice bA P bc, .slice oA P oc, .slice A4 j c4] ∧ GathN wr vc.heap.size 163 2 (.slice A4 j c4) j (usV (readUs bs (rgK13 bs) j)) ∧ Ins wr bA P bc ub ∧ Ins wr oA P oc uo)
    case atStart => exact ⟨0, none, 0, by omega, rfl, HDc.out, GathN.nil _ _ _ _ (Nat.le_refl _), HIBc.out, HIOc.out⟩
    obtain ⟨j, A4, c4, hj, rfl, hd, hG4, hib, hio⟩ := hrel
    have HDr := Lib.hid hd
    have HGr := Lib.hid hG4
    have HIBr := Lib.hid hib
    have HIOr := Lib.hid hio
    clear hd hG4 hib hio
    have gc0 := HDr.out.cfg.c0
    have gc1 := HDr.out.cfg.c1
    have gc2 := HDr.out.cfg.c2
    by_cases hlt : j < sN
    · have hlt2 : (j : Int) < (sN : Int) := by omega
      obtain ⟨st, hst⟩ : ∃ x : Int, ((getN bs (usPos bs (rgK13 bs) j) 1 : Nat) : Int) = x := ⟨_, rfl⟩
      obtain ⟨sp, hsp⟩ : ∃ x : Int, ((getN bs (getK bs (usPos bs (rgK13 bs) j) 1) 4 : Nat) : Int) = x := ⟨_, rfl⟩
      have HST := Lib.hid hst
      have HSP := Lib.hid hsp
      clear hst hsp
      go_wp2_with fail
      refine (ref_num_all p g (usPos bs (rgK13 bs) j) bs 1 _ (by exact HDr.out.row)).mono ?_
      rintro en v0 ⟨rfl, hr, hO⟩
      rw [HST.out]
      have HDa := Lib.hid (HDr.out.got hr hO)
      have HGa := Lib.hid (HGr.out.keep hO (fun k hk => by have := (HGr.out.1.lt k hk).1; simp; omega))
      have HIBa := Lib.hid (HIBr.out.keep hO (fun a ha => by simpa using (HN0.out a ha).1))
      have HIOa := Lib.hid (HIOr.out.keep hO (fun a ha => by simpa using (HN1.out a ha).1))
      clear hr hO gc0 gc1 gc2
      have HDs := Lib.hid HDa.out.drew
      have HGs := Lib.hid (HGa.out.keep0 (Only.refl _ _).drew)
      have HIBs := Lib.hid HIBa.out.drew
      have HIOs := Lib.hid HIOa.out.drew
      have lf := HDs.out.box.lt
      go_wp2_with fail
      refine wp_region_held_drew (S := (fun w' => w'.cell? ⟨cq, 0, none⟩ = some (.int .i64 b) ∧ w'.cell? ⟨cq, 1, none⟩ = some (.int .i64 (sN : Int)) ∧ w'.cell? ⟨cq, 2, none⟩ = some (.int .i64 l))) (by kernel_rfl) ⟨HDs.out.cfg.c0, HDs.out.cfg.c1, HDs.out.cfg.c2⟩ (fun hSw0 => ?_)
      refine wpAnyH_take (i := 0) (oi := ⟨some 82, _, _, _, _, _⟩) (v := ?_) rfl (by kernel_rfl) (by kernel_rfl) (by kernel_rfl) (fun _ _ _ h => h) (Or.inl ⟨by rfl, ?_⟩) (by assumption) ?_
      rotate_left
      · intro w hSw
        obtain ⟨hS0, hS1, hS2⟩ := hSw
        go_simp
        all_goals (try with_reducible rfl)
      (try simp only [Act.put, List.setIfInBounds_toArray, List.set_cons_zero, List.set_cons_succ])
      refine wpAnyH_take (i := 2) (oi := ⟨some 84, _, _, _, _, _⟩) (v := ?_) rfl (by kernel_rfl) (by kernel_rfl) (by kernel_rfl) (fun _ _ _ h => h) (Or.inl ⟨by rfl, ?_⟩) (by assumption) ?_
      rotate_left
      · intro w hSw
        obtain ⟨hS0, hS1, hS2⟩ := hSw
        go_simp
        all_goals (try with_reducible rfl)
      (try simp only [Act.put, List.setIfInBounds_toArray, List.set_cons_zero, List.set_cons_succ])
      refine wpAnyH_take (i := 3) (oi := ⟨some 85, _, _, _, _, _⟩) (v := ?_) rfl (by kernel_rfl) (by kernel_rfl) (by kernel_rfl) (fun _ _ _ h => h) (Or.inl ⟨by rfl, ?_⟩) (by assumption) ?_
      rotate_left
      · intro w hSw
        obtain ⟨hS0, hS1, hS2⟩ := hSw
        go_simp
        all_goals (try with_reducible rfl)
      (try simp only [Act.put, List.setIfInBounds_toArray, List.set_cons_zero, List.set_cons_succ])
      refine wpAnyH_ready (rs := [1, 4]) (by kernel_rfl) (by simp) ?_
      refine AllReadyH.cons (o := ⟨some 83, _, _, _, _, _⟩) rfl (fun K hK => ?_) ?_
      · have yq := HDs.out.box.cell 13 (by simp)
        simp only [List.getElem_cons_zero, List.getElem_cons_succ] at yq
        have lq := HDs.out.box.lt
        go_simp
        clear yq lq
        refine hK.out _ _ ⟨HDs.out.cfg.c0, HDs.out.cfg.c1, HDs.out.cfg.c2⟩ (fun hSn => ?_)
        clear hK K hSw0
        have hSw0 := hSn
        clear hSn
        (try simp only [Act.put, List.setIfInBounds_toArray, List.set_cons_zero, List.set_cons_succ])
        refine wpAnyH_ready (rs := [4]) (by kernel_rfl) (by simp) ?_
        refine AllReadyH.cons (o := ⟨some 86, _, _, _, _, _⟩) rfl (fun K hK => ?_) AllReadyH.nil
        go_simp
        refine (ref_num_all p g (getK bs (usPos bs (rgK13 bs) j) 1) bs 4 _ (by exact HDs.out.row)).mono ?_
        rintro en vb ⟨rfl, hr, hO⟩
        rw [HSP.out]
        have HDb := Lib.hid (HDs.out.got hr hO)
        have HGb := Lib.hid (HGs.out.keep hO (fun k hk => by have := (HGs.out.1.lt k hk).1; simp; omega))
        have HIBb := Lib.hid (HIBs.out.keep hO (fun a ha => by simpa using (HN0.out a ha).1))
        have HIOb := Lib.hid (HIOs.out.keep hO (fun a ha => by simpa using (HN1.out a ha).1))
        clear hr hO
        refine hK.out _ _ ⟨HDb.out.cfg.c0, HDb.out.cfg.c1, HDb.out.cfg.c2⟩ (fun hSn => ?_)
        clear hK K hSw0
        have hSw0 := hSn
        clear hSn
        (try simp only [Act.put, List.setIfInBounds_toArray, List.set_cons_zero, List.set_cons_succ])
        refine wpAnyH_take (i := 5) (oi := ⟨some 87, _, _, _, _, _⟩) (v := ?_) rfl (by kernel_rfl) (by kernel_rfl) (by kernel_rfl) (fun _ _ _ h => h) (Or.inl ⟨by rfl, ?_⟩) (by assumption) ?_
        rotate_left
        · intro w hSw
          obtain ⟨hS0, hS1, hS2⟩ := hSw
          go_simp
          all_goals (try with_reducible rfl)
        (try simp only [Act.put, List.setIfInBounds_toArray, List.set_cons_zero, List.set_cons_succ])
        refine wpAnyH_ready (rs := [6]) (by kernel_rfl) (by simp) ?_
        refine AllReadyH.cons (o := ⟨some 88, _, _, _, _, _⟩) rfl (fun K hK => ?_) AllReadyH.nil
        go_simp
        have HDe := Lib.hid (HDb.out.keep0 ((Only.refl _ _).alloc (.cells #[.int .i64 st, .int .i64 sp] 163)))
        have HGe := Lib.hid (HGb.out.keep0 ((Only.refl _ _).alloc (.cells #[.int .i64 st, .int .i64 sp] 163)))
        have HIBe := Lib.hid (HIBb.out.keep0 ((Only.refl _ _).alloc (.cells #[.int .i64 st, .int .i64 sp] 163)))
        have HIOe := Lib.hid (HIOb.out.keep0 ((Only.refl _ _).alloc (.cells #[.int .i64 st, .int .i64 sp] 163)))
        refine hK.out _ _ ⟨HDe.out.cfg.c0, HDe.out.cfg.c1, HDe.out.cfg.c2⟩ (fun hSn => ?_)
        clear hK K hSw0
        have hSw0 := hSn
        clear hSn
        (try simp only [Act.put, List.setIfInBounds_toArray, List.set_cons_zero, List.set_cons_succ])
        refine wpAnyH_ready (rs := [7]) (by kernel_rfl) (by simp) ?_
        refine AllReadyH.cons (o := ⟨some 89, _, _, _, _, _⟩) rfl (fun K hK => ?_) AllReadyH.nil
        refine step_append_elems rfl (.tmp 83) (.tmp 88) 88 rfl vc.heap.size 163 i0 _ 2 16 Try.underlying88 hi0 hz0 hz1 hz2 rfl (by decide) (.slice A4 j c4) j (usV (readUs bs (rgK13 bs) j)) rfl (HGe.out.1) ⟨vb.heap.size, 0, none⟩ 1 1 (usV [(st, sp)]) rfl rfl (news_new vb #[.int .i64 st, .int .i64 sp] 163 (by simp [maxLen])) (usV_one _) (by unfold maxLen; omega) (by omega) HGe.out.2 ?_
        intro v' wa hown hgrow _
        have hS : Only ((Value.slice A4 j c4).ownBlock.toList) (vb.alloc (.cells #[.int .i64 st, .int .i64 sp] 163)) wa := (Only.refl _ _).grown hgrow fun q hq => .inl (by rw [hq]; simp)
        have hSb : ∀ q ∈ (Value.slice A4 j c4).ownBlock.toList, vc.heap.size ≤ q := fun q hq => (HGe.out.1.lt q (by simpa using hq)).1
        have HDd := Lib.hid (HDe.out.keep hS (fun h => by have := hSb _ h; omega) (fun h => by have := hSb _ h; omega) (fun h => by have := hSb _ h; omega) (fun h => by have := hSb _ h; omega) (fun h => by have := hSb _ h; omega) (fun i h => by have := hSb _ h; omega))
        have hgd : GathN wa vc.heap.size 163 2 v' (j + 1) (usV (readUs bs (rgK13 bs) (j + 1))) := by
          refine ⟨?_, Nat.le_trans HGe.out.2 hS.size⟩
          have e : usV (readUs bs (rgK13 bs) (j + 1)) = usV (readUs bs (rgK13 bs) j) ++ usV [(st, sp)] := by
            show usV (readUs bs (rgK13 bs) j ++ [(((getN bs (usPos bs (rgK13 bs) j) 1 : Nat) : Int), ((getN bs (getK bs (usPos bs (rgK13 bs) j) 1) 4 : Nat) : Int))]) = _
            rw [HST.out, HSP.out, usV_snoc]
            rfl
          rw [e]
          exact hown
        have HIBd := Lib.hid (HIBe.out.keepP hS (fun hn a ha h => by have := hSb _ h; have := HIBc.out.block_lt hn a ha; omega))
        have HIOd := Lib.hid (HIOe.out.keepP hS (fun hn a ha h => by have := hSb _ h; have := HIOc.out.block_lt hn a ha; omega))
        obtain ⟨A5, c5, rfl, _, _⟩ := hgd.uss (by simp)
        have HGd := Lib.hid hgd
        clear hS hSb hgd hown hgrow
        refine hK.out _ _ ⟨HDd.out.cfg.c0, HDd.out.cfg.c1, HDd.out.cfg.c2⟩ (fun hSn => ?_)
        clear hK K hSw0
        have hSw0 := hSn
        clear hSn
        (try simp only [Act.put, List.setIfInBounds_toArray, List.set_cons_zero, List.set_cons_succ])
        refine wpAnyH_take (i := 8) (oi := ⟨some 90, _, _, _, _, _⟩) (v := ?_) rfl (by kernel_rfl) (by kernel_rfl) (by kernel_rfl) (fun _ _ _ h => h) (Or.inl ⟨by rfl, ?_⟩) (by assumption) ?_
        rotate_left
        · intro w hSw
          obtain ⟨hS0, hS1, hS2⟩ := hSw
          go_simp
          all_goals (try with_reducible rfl)
        (try simp only [Act.put, List.setIfInBounds_toArray, List.set_cons_zero, List.set_cons_succ])
        refine wpAnyH_ready (rs := [9]) (by kernel_rfl) (by simp) ?_
        refine AllReadyH.cons (o := ⟨none, _, _, _, _, _⟩) rfl (fun K hK => ?_) AllReadyH.nil
        have yq := HDd.out.box.cell 13 (by simp)
        simp only [List.getElem_cons_zero, List.getElem_cons_succ] at yq
        have lq := HDd.out.box.lt
        have fq := HDd.out.box.frozen 13
        go_simp
        have hdp := HDd.out.put 13 (.slice A5 (j + 1) c5)
        simp only [List.set_cons_zero, List.set_cons_succ] at hdp
        have HDz := Lib.hid hdp
        clear hdp yq lq fq
        refine hK.out _ _ ⟨HDz.out.cfg.c0, HDz.out.cfg.c1, HDz.out.cfg.c2⟩ (fun hSn => ?_)
        clear hK K hSw0
        have hSw0 := hSn
        clear hSn
        (try simp only [Act.put, List.setIfInBounds_toArray, List.set_cons_zero, List.set_cons_succ])
        refine wpAnyH_done (by kernel_rfl) ?_ _
        clear hSw0
        go_wp2
        go_roundg (gk - 1)
        case measure => omega
        case rel =>
          have hO8 : Only [f] wa (wa.setCell ⟨f, 13, none⟩ (.slice A5 (j + 1) c5)) := (Only.refl _ _).set (by simp) _
          refine ⟨j + 1, A5, c5, by omega, by go_num, HDz.out, HGd.out.keep hO8 (fun k hk => ?_), HIBd.out.keep hO8 (fun a ha => by simpa using (HN0.out a ha).2.1), HIOd.out.keep hO8 (fun a ha => by simpa using (HN1.out a ha).2.1)⟩
          have := (HGd.out.1.lt k hk).1
          simp
          omega
      refine AllReadyH.cons (o := ⟨some 86, _, _, _, _, _⟩) rfl (fun K hK => ?_) ?_
      · go_simp
        refine (ref_num_all p g (getK bs (usPos bs (rgK13 bs) j) 1) bs 4 _ (by exact HDs.out.row)).mono ?_
        rintro en vb ⟨rfl, hr, hO⟩
        rw [HSP.out]
        have HDb := Lib.hid (HDs.out.got hr hO)
        have HGb := Lib.hid (HGs.out.keep hO (fun k hk => by have := (HGs.out.1.lt k hk).1; simp; omega))
        have HIBb := Lib.hid (HIBs.out.keep hO (fun a ha => by simpa using (HN0.out a ha).1))
        have HIOb := Lib.hid (HIOs.out.keep hO (fun a ha => by simpa using (HN1.out a ha).1))
        clear hr hO
        refine hK.out _ _ ⟨HDb.out.cfg.c0, HDb.out.cfg.c1, HDb.out.cfg.c2⟩ (fun hSn => ?_)
        clear hK K hSw0
        have hSw0 := hSn
        clear hSn
        (try simp only [Act.put, List.setIfInBounds_toArray, List.set_cons_zero, List.set_cons_succ])
        refine wpAnyH_take (i := 5) (oi := ⟨some 87, _, _, _, _, _⟩) (v := ?_) rfl (by kernel_rfl) (by kernel_rfl) (by kernel_rfl) (fun _ _ _ h => h) (Or.inl ⟨by rfl, ?_⟩) (by assumption) ?_
        rotate_left
        · intro w hSw
          obtain ⟨hS0, hS1, hS2⟩ := hSw
          go_simp
          all_goals (try with_reducible rfl)
        (try simp only [Act.put, List.setIfInBounds_toArray, List.set_cons_zero, List.set_cons_succ])
        refine wpAnyH_ready (rs := [1, 6]) (by kernel_rfl) (by simp) ?_
        refine AllReadyH.cons (o := ⟨some 83, _, _, _, _, _⟩) rfl (fun K hK => ?_) ?_
        · have yq := HDb.out.box.cell 13 (by simp)
          simp only [List.getElem_cons_zero, List.getElem_cons_succ] at yq
          have lq := HDb.out.box.lt
          go_simp
          clear yq lq
          refine hK.out _ _ ⟨HDb.out.cfg.c0, HDb.out.cfg.c1, HDb.out.cfg.c2⟩ (fun hSn => ?_)
          clear hK K hSw0
          have hSw0 := hSn
          clear hSn
          (try simp only [Act.put, List.setIfInBounds_toArray, List.set_cons_zero, List.set_cons_succ])
          refine wpAnyH_ready (rs := [6]) (by kernel_rfl) (by simp) ?_
          refine AllReadyH.cons (o := ⟨some 88, _, _, _, _, _⟩) rfl (fun K hK => ?_) AllReadyH.nil
          go_simp
          have HDe := Lib.hid (HDb.out.keep0 ((Only.refl _ _).alloc (.cells #[.int .i64 st, .int .i64 sp] 163)))
          have HGe := Lib.hid (HGb.out.keep0 ((Only.refl _ _).alloc (.cells #[.int .i64 st, .int .i64 sp] 163)))
          have HIBe := Lib.hid (HIBb.out.keep0 ((Only.refl _ _).alloc (.cells #[.int .i64 st, .int .i64 sp] 163)))
          have HIOe := Lib.hid (HIOb.out.keep0 ((Only.refl _ _).alloc (.cells #[.int .i64 st, .int .i64 sp] 163)))
          refine hK.out _ _ ⟨HDe.out.cfg.c0, HDe.out.cfg.c1, HDe.out.cfg.c2⟩ (fun hSn => ?_)
          clear hK K hSw0
          have hSw0 := hSn
          clear hSn
          (try simp only [Act.put, List.setIfInBounds_toArray, List.set_cons_zero, List.set_cons_succ])
          refine wpAnyH_ready (rs := [7]) (by kernel_rfl) (by simp) ?_
          refine AllReadyH.cons (o := ⟨some 89, _, _, _, _, _⟩) rfl (fun K hK => ?_) AllReadyH.nil
          refine step_append_elems rfl (.tmp 83) (.tmp 88) 88 rfl vc.heap.size 163 i0 _ 2 16 Try.underlying88 hi0 hz0 hz1 hz2 rfl (by decide) (.slice A4 j c4) j (usV (readUs bs (rgK13 bs) j)) rfl (HGe.out.1) ⟨vb.heap.size, 0, none⟩ 1 1 (usV [(st, sp)]) rfl rfl (news_new vb #[.int .i64 st, .int .i64 sp] 163 (by simp [maxLen])) (usV_one _) (by unfold maxLen; omega) (by omega) HGe.out.2 ?_
          intro v' wa hown hgrow _
          have hS : Only ((Value.slice A4 j c4).ownBlock.toList) (vb.alloc (.cells #[.int .i64 st, .int .i64 sp] 163)) wa := (Only.refl _ _).grown hgrow fun q hq => .inl (by rw [hq]; simp)
          have hSb : ∀ q ∈ (Value.slice A4 j c4).ownBlock.toList, vc.heap.size ≤ q := fun q hq => (HGe.out.1.lt q (by simpa using hq)).1
          have HDd := Lib.hid (HDe.out.keep hS (fun h => by have := hSb _ h; omega) (fun h => by have := hSb _ h; omega) (fun h => by have := hSb _ h; omega) (fun h => by have := hSb _ h; omega) (fun h => by have := hSb _ h; omega) (fun i h => by have := hSb _ h; omega))
          have hgd : GathN wa vc.heap.size 163 2 v' (j + 1) (usV (readUs bs (rgK13 bs) (j + 1))) := by
            refine ⟨?_, Nat.le_trans HGe.out.2 hS.size⟩
            have e : usV (readUs bs (rgK13 bs) (j + 1)) = usV (readUs bs (rgK13 bs) j) ++ usV [(st, sp)] := by
              show usV (readUs bs (rgK13 bs) j ++ [(((getN bs (usPos bs (rgK13 bs) j) 1 : Nat) : Int), ((getN bs (getK bs (usPos bs (rgK13 bs) j) 1) 4 : Nat) : Int))]) = _
              rw [HST.out, HSP.out, usV_snoc]
              rfl
            rw [e]
            exact hown
          have HIBd := Lib.hid (HIBe.out.keepP hS (fun hn a ha h => by have := hSb _ h; have := HIBc.out.block_lt hn a ha; omega))
          have HIOd := Lib.hid (HIOe.out.keepP hS (fun hn a ha h => by have := hSb _ h; have := HIOc.out.block_lt hn a ha; omega))
          obtain ⟨A5, c5, rfl, _, _⟩ := hgd.uss (by simp)
          have HGd := Lib.hid hgd
          clear hS hSb hgd hown hgrow
          refine hK.out _ _ ⟨HDd.out.cfg.c0, HDd.out.cfg.c1, HDd.out.cfg.c2⟩ (fun hSn => ?_)
          clear hK K hSw0
          have hSw0 := hSn
          clear hSn
          (try simp only [Act.put, List.setIfInBounds_toArray, List.set_cons_zero, List.set_cons_succ])
          refine wpAnyH_take (i := 8) (oi := ⟨some 90, _, _, _, _, _⟩) (v := ?_) rfl (by kernel_rfl) (by kernel_rfl) (by kernel_rfl) (fun _ _ _ h => h) (Or.inl ⟨by rfl, ?_⟩) (by assumption) ?_
          rotate_left
          · intro w hSw
            obtain ⟨hS0, hS1, hS2⟩ := hSw
            go_simp
            all_goals (try with_reducible rfl)
          (try simp only [Act.put, List.setIfInBounds_toArray, List.set_cons_zero, List.set_cons_succ])
          refine wpAnyH_ready (rs := [9]) (by kernel_rfl) (by simp) ?_
          refine AllReadyH.cons (o := ⟨none, _, _, _, _, _⟩) rfl (fun K hK => ?_) AllReadyH.nil
          have yq := HDd.out.box.cell 13 (by simp)
          simp only [List.getElem_cons_zero, List.getElem_cons_succ] at yq
          have lq := HDd.out.box.lt
          have fq := HDd.out.box.frozen 13
          go_simp
          have hdp := HDd.out.put 13 (.slice A5 (j + 1) c5)
          simp only [List.set_cons_zero, List.set_cons_succ] at hdp
          have HDz := Lib.hid hdp
          clear hdp yq lq fq
          refine hK.out _ _ ⟨HDz.out.cfg.c0, HDz.out.cfg.c1, HDz.out.cfg.c2⟩ (fun hSn => ?_)
          clear hK K hSw0
          have hSw0 := hSn
          clear hSn
          (try simp only [Act.put, List.setIfInBounds_toArray, List.set_cons_zero, List.set_cons_succ])
          refine wpAnyH_done (by kernel_rfl) ?_ _
          clear hSw0
          go_wp2
          go_roundg (gk - 1)
          case measure => omega
          case rel =>
            have hO8 : Only [f] wa (wa.setCell ⟨f, 13, none⟩ (.slice A5 (j + 1) c5)) := (Only.refl _ _).set (by simp) _
            refine ⟨j + 1, A5, c5, by omega, by go_num, HDz.out, HGd.out.keep hO8 (fun k hk => ?_), HIBd.out.keep hO8 (fun a ha => by simpa using (HN0.out a ha).2.1), HIOd.out.keep hO8 (fun a ha => by simpa using (HN1.out a ha).2.1)⟩
            have := (HGd.out.1.lt k hk).1
            simp
            omega
        refine AllReadyH.cons (o := ⟨some 88, _, _, _, _, _⟩) rfl (fun K hK => ?_) ?_
        · go_simp
          have HDe := Lib.hid (HDb.out.keep0 ((Only.refl _ _).alloc (.cells #[.int .i64 st, .int .i64 sp] 163)))
          have HGe := Lib.hid (HGb.out.keep0 ((Only.refl _ _).alloc (.cells #[.int .i64 st, .int .i64 sp] 163)))
          have HIBe := Lib.hid (HIBb.out.keep0 ((Only.refl _ _).alloc (.cells #[.int .i64 st, .int .i64 sp] 163)))
          have HIOe := Lib.hid (HIOb.out.keep0 ((Only.refl _ _).alloc (.cells #[.int .i64 st, .int .i64 sp] 163)))
          refine hK.out _ _ ⟨HDe.out.cfg.c0, HDe.out.cfg.c1, HDe.out.cfg.c2⟩ (fun hSn => ?_)
          clear hK K hSw0
          have hSw0 := hSn
          clear hSn
          (try simp only [Act.put, List.setIfInBounds_toArray, List.set_cons_zero, List.set_cons_succ])
          refine wpAnyH_ready (rs := [1]) (by kernel_rfl) (by simp) ?_
          refine AllReadyH.cons (o := ⟨some 83, _, _, _, _, _⟩) rfl (fun K hK => ?_) AllReadyH.nil
          have yq := HDe.out.box.cell 13 (by simp)
          simp only [List.getElem_cons_zero, List.getElem_cons_succ] at yq
          have lq := HDe.out.box.lt
          go_simp
          clear yq lq
          refine hK.out _ _ ⟨HDe.out.cfg.c0, HDe.out.cfg.c1, HDe.out.cfg.c2⟩ (fun hSn => ?_)
          clear hK K hSw0
          have hSw0 := hSn
          clear hSn
          (try simp only [Act.put, List.setIfInBounds_toArray, List.set_cons_zero, List.set_cons_succ])
          refine wpAnyH_ready (rs := [7]) (by kernel_rfl) (by simp) ?_
          refine AllReadyH.cons (o := ⟨some 89, _, _, _, _, _⟩) rfl (fun K hK => ?_) AllReadyH.nil
          refine step_append_elems rfl (.tmp 83) (.tmp 88) 88 rfl vc.heap.size 163 i0 _ 2 16 Try.underlying88 hi0 hz0 hz1 hz2 rfl (by decide) (.slice A4 j c4) j (usV (readUs bs (rgK13 bs) j)) rfl (HGe.out.1) ⟨vb.heap.size, 0, none⟩ 1 1 (usV [(st, sp)]) rfl rfl (news_new vb #[.int .i64 st, .int .i64 sp] 163 (by simp [maxLen])) (usV_one _) (by unfold maxLen; omega) (by omega) HGe.out.2 ?_
          intro v' wa hown hgrow _
          have hS : Only ((Value.slice A4 j c4).ownBlock.toList) (vb.alloc (.cells #[.int .i64 st, .int .i64 sp] 163)) wa := (Only.refl _ _).grown hgrow fun q hq => .inl (by rw [hq]; simp)
          have hSb : ∀ q ∈ (Value.slice A4 j c4).ownBlock.toList, vc.heap.size ≤ q := fun q hq => (HGe.out.1.lt q (by simpa using hq)).1
          have HDd := Lib.hid (HDe.out.keep hS (fun h => by have := hSb _ h; omega) (fun h => by have := hSb _ h; omega) (fun h => by have := hSb _ h; omega) (fun h => by have := hSb _ h; omega) (fun h => by have := hSb _ h; omega) (fun i h => by have := hSb _ h; omega))
          have hgd : GathN wa vc.heap.size 163 2 v' (j + 1) (usV (readUs bs (rgK13 bs) (j + 1))) := by
            refine ⟨?_, Nat.le_trans HGe.out.2 hS.size⟩
            have e : usV (readUs bs (rgK13 bs) (j + 1)) = usV (readUs bs (rgK13 bs) j) ++ usV [(st, sp)] := by
              show usV (readUs bs (rgK13 bs) j ++ [(((getN bs (usPos bs (rgK13 bs) j) 1 : Nat) : Int), ((getN bs (getK bs (usPos bs (rgK13 bs) j) 1) 4 : Nat) : Int))]) = _
              rw [HST.out, HSP.out, usV_snoc]
              rfl
            rw [e]
            exact hown
          have HIBd := Lib.hid (HIBe.out.keepP hS (fun hn a ha h => by have := hSb _ h; have := HIBc.out.block_lt hn a ha; omega))
          have HIOd := Lib.hid (HIOe.out.keepP hS (fun hn a ha h => by have := hSb _ h; have := HIOc.out.block_lt hn a ha; omega))
          obtain ⟨A5, c5, rfl, _, _⟩ := hgd.uss (by simp)
          have HGd := Lib.hid hgd
          clear hS hSb hgd hown hgrow
          refine hK.out _ _ ⟨HDd.out.cfg.c0, HDd.out.cfg.c1, HDd.out.cfg.c2⟩ (fun hSn => ?_)
          clear hK K hSw0
          have hSw0 := hSn
          clear hSn
          (try simp only [Act.put, List.setIfInBounds_toArray, List.set_cons_zero, List.set_cons_succ])
          refine wpAnyH_take (i := 8) (oi := ⟨some 90, _, _, _, _, _⟩) (v := ?_) rfl (by kernel_rfl) (by kernel_rfl) (by kernel_rfl) (fun _ _ _ h => h) (Or.inl ⟨by rfl, ?_⟩) (by assumption) ?_
          rotate_left
          · intro w hSw
            obtain ⟨hS0, hS1, hS2⟩ := hSw
            go_simp
            all_goals (try with_reducible rfl)
          (try simp only [Act.put, List.setIfInBounds_toArray, List.set_cons_zero, List.set_cons_succ])
          refine wpAnyH_ready (rs := [9]) (by kernel_rfl) (by simp) ?_
          refine AllReadyH.cons (o := ⟨none, _, _, _, _, _⟩) rfl (fun K hK => ?_) AllReadyH.nil
          have yq := HDd.out.box.cell 13 (by simp)
          simp only [List.getElem_cons_zero, List.getElem_cons_succ] at yq
          have lq := HDd.out.box.lt
          have fq := HDd.out.box.frozen 13
          go_simp
          have hdp := HDd.out.put 13 (.slice A5 (j + 1) c5)
          simp only [List.set_cons_zero, List.set_cons_succ] at hdp
          have HDz := Lib.hid hdp
          clear hdp yq lq fq
          refine hK.out _ _ ⟨HDz.out.cfg.c0, HDz.out.cfg.c1, HDz.out.cfg.c2⟩ (fun hSn => ?_)
          clear hK K hSw0
          have hSw0 := hSn
          clear hSn
          (try simp only [Act.put, List.setIfInBounds_toArray, List.set_cons_zero, List.set_cons_succ])
          refine wpAnyH_done (by kernel_rfl) ?_ _
          clear hSw0
          go_wp2
          go_roundg (gk - 1)
          case measure => omega
          case rel =>
            have hO8 : Only [f] wa (wa.setCell ⟨f, 13, none⟩ (.slice A5 (j + 1) c5)) := (Only.refl _ _).set (by simp) _
            refine ⟨j + 1, A5, c5, by omega, by go_num, HDz.out, HGd.out.keep hO8 (fun k hk => ?_), HIBd.out.keep hO8 (fun a ha => by simpa using (HN0.out a ha).2.1), HIOd.out.keep hO8 (fun a ha => by simpa using (HN1.out a ha).2.1)⟩
            have := (HGd.out.1.lt k hk).1
            simp
            omega
        exact AllReadyH.nil
      exact AllReadyH.nil
    · obtain rfl : j = sN := by omega
      obtain ⟨us, hus⟩ : ∃ us, readUs bs (rgK13 bs) j = us := ⟨_, rfl⟩
      have husl : us.length = j := by rw [← hus, readUs_length]
      rw [hus] at HGr
      have hrg : rgOf (pgN b) (((j : Nat) : Int)).toNat bs = ⟨x0, x1, x2, x3, x4, x5, x6, x7, x8, x9, x10, ub, uo, us⟩ := by
        unfold rgOf
        rw [HV0.out, HV1.out, HV2.out, HV3.out, HV4.out, HV5.out, HV6.out, HV7.out, HV8.out, HV9.out, HV10.out, HPP.out, HUB.out, HUO.out, Int.toNat_natCast, hus]
      have hds : (if encRg b (j : Int) l ⟨x0, x1, x2, x3, x4, x5, x6, x7, x8, x9, x10, ub, uo, us⟩ = some bs then some ⟨x0, x1, x2, x3, x4, x5, x6, x7, x8, x9, x10, ub, uo, us⟩ else none) = decRg b (j : Int) l bs := by
        unfold decRg decBy
        rw [hrg]
      have HDS := Lib.hid hds
      obtain ⟨A4', c4', hsl, huss, _⟩ := HGr.out.uss husl
      injection hsl with e1 e2 e3
      subst e1 e3
      have HUS := Lib.hid huss
      have HNU : Hid (∀ a, A4 = some a → a.block ≠ z ∧ w.heap.size ≤ a.block) := Lib.hid (fun a ha => by subst ha; have := (HGr.out.1.lt a.block rfl).1; exact ⟨by omega, by omega⟩)
      have HRA : Hid (RgAt wr ⟨x0, x1, x2, x3, x4, x5, x6, x7, x8, x9, x10, ub, uo, us⟩ (bA, P, bc) (oA, P, oc) (A4, j, c4)) := Lib.hid ⟨HIBr.out, HIOr.out, huss⟩
      have hd4 := HDr.out.box
      clear hrg hds huss hus husl
      have z0 := hd4.cell 0 (by simp)
      have z1 := hd4.cell 1 (by simp)
      have z2 := hd4.cell 2 (by simp)
      have z3 := hd4.cell 3 (by simp)
      have z4 := hd4.cell 4 (by simp)
      have z5 := hd4.cell 5 (by simp)
      have z6 := hd4.cell 6 (by simp)
      have z7 := hd4.cell 7 (by simp)
      have z8 := hd4.cell 8 (by simp)
      have z9 := hd4.cell 9 (by simp)
      have z10 := hd4.cell 10 (by simp)
      have z11 := hd4.cell 11 (by simp)
      have z12 := hd4.cell 12 (by simp)
      have z13 := hd4.cell 13 (by simp)
      simp only [List.getElem_cons_zero, List.getElem_cons_succ] at z0 z1 z2 z3 z4 z5 z6 z7 z8 z9 z10 z11 z12 z13
      have lf := hd4.lt
      clear hd4
      go_wp2_with fail
      refine (ref_region_enc_own b (j : Int) l x0 x1 x2 x3 x4 x5 x6 x7 x8 x9 x10 bA P bc ub oA P oc uo A4 j c4 us _ HC.out HRA.out).mono ?_
      intro en w4 he
      obtain ⟨A3, c3, rfl, hb3, _, hO3⟩ := he.says
      have HRA4 := Lib.hid (HRA.out.keep0 hO3)
      have HB := Lib.hid (HI.out.keep0 (HDr.out.only.trans' hO3))
      have HO4 := Lib.hid (HDr.out.only.trans' hO3)
      have hd4 := HDr.out.keep0 hO3
      clear he hO3 lf z0 z1 z2 z3 z4 z5 z6 z7 z8 z9 z10 z11 z12 z13 gc0 gc1 gc2
      have hb4 := hd4.box
      have ho4 := hd4.out
      have z0 := hb4.cell 0 (by simp)
      have z1 := hb4.cell 1 (by simp)
      have z2 := hb4.cell 2 (by simp)
      have z3 := hb4.cell 3 (by simp)
      have z4 := hb4.cell 4 (by simp)
      have z5 := hb4.cell 5 (by simp)
      have z6 := hb4.cell 6 (by simp)
      have z7 := hb4.cell 7 (by simp)
      have z8 := hb4.cell 8 (by simp)
      have z9 := hb4.cell 9 (by simp)
      have z10 := hb4.cell 10 (by simp)
      have z11 := hb4.cell 11 (by simp)
      have z12 := hb4.cell 12 (by simp)
      have z13 := hb4.cell 13 (by simp)
      have y0 := ho4.cell 0 (by simp)
      have y1 := ho4.cell 1 (by simp)
      have y2 := ho4.cell 2 (by simp)
      have y3 := ho4.cell 3 (by simp)
      have y4 := ho4.cell 4 (by simp)
      have y5 := ho4.cell 5 (by simp)
      have y6 := ho4.cell 6 (by simp)
      have y7 := ho4.cell 7 (by simp)
      have y8 := ho4.cell 8 (by simp)
      have y9 := ho4.cell 9 (by simp)
      have y10 := ho4.cell 10 (by simp)
      have y11 := ho4.cell 11 (by simp)
      have y12 := ho4.cell 12 (by simp)
      have y13 := ho4.cell 13 (by simp)
      have f0 := ho4.frozen 0
      have f1 := ho4.frozen 1
      have f2 := ho4.frozen 2
      have f3 := ho4.frozen 3
      have f4 := ho4.frozen 4
      have f5 := ho4.frozen 5
      have f6 := ho4.frozen 6
      have f7 := ho4.frozen 7
      have f8 := ho4.frozen 8
      have f9 := ho4.frozen 9
      have f10 := ho4.frozen 10
      have f11 := ho4.frozen 11
      have f12 := ho4.frozen 12
      have f13 := ho4.frozen 13
      simp only [List.getElem_cons_zero, List.getElem_cons_succ] at z0 z1 z2 z3 z4 z5 z6 z7 z8 z9 z10 z11 z12 z13 y0 y1 y2 y3 y4 y5 y6 y7 y8 y9 y10 y11 y12 y13
      have lf := hb4.lt
      have lz := ho4.lt
      have hzw : w.heap.size ≤ z := hd4.hz
      clear hd4 hb4 ho4
      cases hen : encRg b (j : Int) l ⟨x0, x1, x2, x3, x4, x5, x6, x7, x8, x9, x10, ub, uo, us⟩ with
      | none =>
        rw [hen] at hb3
        clear hb3
        have hno : decRg b (j : Int) l bs = none := by rw [← HDS.out, hen]; rfl
        have HNO := Lib.hid hno
        clear hno hen
        go_wp2
        (try simp only [Exit.inBlock, Exit.then])
        refine bodyPost_ret (v := .tuple #[.agg #[.int .i64 0, .int .i64 0, .int .i64 0, .int .i64 0, .int .i64 0, .int .i64 0, .int .i64 0, .int .i64 0, .int .i64 0, .int .i64 0, .int .i64 0, .slice none 0 0, .slice none 0 0, .slice none 0 0], .int .i64 2]) ?_ rfl (RgSays.no HNO.out ?_)
        · simp only [results, HRES.out]
          go_simp
        · (repeat' first | (with_reducible refine Only.set ?_ (.inr hzw) _) | (with_reducible exact HO4.out))
      | some ys =>
        rw [hen] at hb3
        simp only [Option.getD_some] at hb3
        have HB3 := Lib.hid hb3
        have HEN := Lib.hid hen
        clear hb3 hen
        simp only [Option.getD_some, Option.isSome_some, if_true]
        go_wp2_with fail
        refine (equal_any A3 ys.length c3 ys A n c bs _ (by exact HB3.out) (by exact HB.out)).mono ?_
        rintro en w5 ⟨rfl, k5, rfl⟩
        by_cases hyb : ys = bs
        · have hd : decide (ys = bs) = true := by simp [hyb]
          have hyes : decRg b (j : Int) l bs = some ⟨x0, x1, x2, x3, x4, x5, x6, x7, x8, x9, x10, ub, uo, us⟩ := by rw [← HDS.out, HEN.out, hyb, if_pos rfl]
          have HYES := Lib.hid hyes
          clear hyes hyb
          go_wp2
          (try simp only [Exit.inBlock, Exit.then])
          have hO9 : ∀ W : World, Only [z] (w4.drewN k5) W → Only [] w W := fun W h => (HO4.out.drewN k5).trans h (by simpa using hzw)
          refine bodyPost_ret (v := .tuple #[.agg #[.int .i64 x0, .int .i64 x1, .int .i64 x2, .int .i64 x3, .int .i64 x4, .int .i64 x5, .int .i64 x6, .int .i64 x7, .int .i64 x8, .int .i64 x9, .int .i64 x10, .slice bA P bc, .slice oA P oc, .slice A4 j c4], .int .i64 0]) ?_ rfl ?_
          · simp only [results, HRES.out]
            go_simp
          · rw [HYES.out]
            refine ⟨(bA, P, bc), (oA, P, oc), (A4, j, c4), rfl, RgAt.keepF (f := z) (HRA4.out.keep0 ((Only.refl _ _).drewN k5)) ?_ (fun a ha => (HN0.out a ha).2.2.1) (fun a ha => (HN1.out a ha).2.2.1) (fun a ha => (HNU.out a ha).1), ⟨fun a ha => (HN0.out a ha).2.2.2, fun a ha => (HN1.out a ha).2.2.2, fun a ha => (HNU.out a ha).2⟩, hO9 _ ?_⟩
            · (repeat' first | (with_reducible refine Only.set ?_ (.inl (by simp)) _) | (with_reducible exact Only.refl _ _))
            · (repeat' first | (with_reducible refine Only.set ?_ (.inl (by simp)) _) | (with_reducible exact Only.refl _ _))
        · have hd : decide (ys = bs) = false := by simp [hyb]
          have hno : decRg b (j : Int) l bs = none := by rw [← HDS.out, HEN.out, if_neg (by intro h; injection h with h; exact hyb h)]
          have HNO := Lib.hid hno
          clear hno hyb
          go_wp2
          (try simp only [Exit.inBlock, Exit.then])
          refine bodyPost_ret (v := .tuple #[.agg #[.int .i64 0, .int .i64 0, .int .i64 0, .int .i64 0, .int .i64 0, .int .i64 0, .int .i64 0, .int .i64 0, .int .i64 0, .int .i64 0, .int .i64 0, .slice none 0 0, .slice none 0 0, .slice none 0 0], .int .i64 2]) ?_ rfl (RgSays.no HNO.out ?_)
          · simp only [results, HRES.out]
            go_simp
          · (repeat' first | (with_reducible refine Only.set ?_ (.inr hzw) _) | (with_reducible exact HO4.out.drewN _))
end Go.Proofs.Ytjmbhknokobnpaa
