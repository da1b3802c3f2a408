/- KitB, KitC, RecF, RecG, KitE, ScnC, ScnD: joined by pack.py, without what the claim does not use. -/
import Derived.Test.YtgcfdjcpcclcjaaGreatChainPlaysD
set_option linter.unusedVariables false
set_option linter.unusedSimpArgs false
set_option maxHeartbeats 16000000
set_option maxRecDepth 100000
namespace Go.Kn
open Go Go.RowKit
def kAt (x i : Nat) : UInt8 := UInt8.ofNat (x + 3 * i)
def kBlk (x : Nat) : List UInt8 := (List.range 64).map (kAt x)
def kBlkP (x t : Nat) : List UInt8 := (List.range 64).map fun k => if k < t then kAt x k else 0
theorem kBlkP_zero (x : Nat) : kBlkP x 0 = List.replicate 64 0 := by
 unfold kBlkP
 simp only [Nat.not_lt_zero, if_false]
 rfl
theorem kBlkP_full (x : Nat) : kBlkP x 64 = kBlk x := by
 unfold kBlkP kBlk
 apply List.map_congr_left
 intro k hk
 rw [if_pos (List.mem_range.1 hk)]
@[simp] theorem kBlkP_length (x t : Nat) : (kBlkP x t).length = 64 := by simp [kBlkP]
@[simp] theorem kBlk_length (x : Nat) : (kBlk x).length = 64 := by simp [kBlk]
theorem kBlkP_get (x t i : Nat) (h : i < (kBlkP x t).length) : (kBlkP x t)[i] = if i < t then kAt x i else 0 := by simp [kBlkP]
theorem kBlkP_set (x t : Nat) (ht : t < 64) : (kBlkP x t).set t (kAt x t) = kBlkP x (t + 1) := by
 apply List.ext_getElem
 ·simp
 intro i h1 h2
 rw [List.getElem_set, kBlkP_get, kBlkP_get]
 by_cases h : t = i
 ·subst h
  rw [if_pos rfl, if_pos (by omega)]
 rw [if_neg h]
 by_cases h3 : i < t
 ·rw [if_pos h3, if_pos (by omega)]
 rw [if_neg h3, if_neg (by omega)]
theorem kAt_wrap (x t : Nat) (h : x + 3 * t < 9223372036854775808) : IntKind.u8.wrap (bits .and .i64 ((x : Int) + 3 * (t : Int)) 255) = ((kAt x t).toNat : Int) := by
 have e := bits_and_i64_nat (x + 3 * t) 255 h (by omega)
 rw [show ((x + 3 * t : Nat) : Int) = (x : Int) + 3 * (t : Int) from by omega, show ((255 : Nat) : Int) = 255 from rfl] at e
 rw [e, show (255 : Nat) = 2 ^ 8 - 1 from rfl, Nat.and_two_pow_sub_one_eq_mod]
 unfold kAt
 rw [UInt8.toNat_ofNat']
 simp [IntKind.wrap, IntKind.signed, IntKind.bits]
/-- an item of kind z, the i-th -/
def kIt (z f : Int) (i : Nat) : It :=
 if z % 6 = 1 ∨ z % 6 = 5 then ⟨1 + z % 6, (f % 1000 + i) % 8, 1 + (f % 1000 + i) % 3, 0⟩
 else if z % 6 = 2 then ⟨3, 0, 0, 1 + (f % 1000 + i)⟩
 else if z % 6 = 3 then ⟨4, (f % 1000 + i) % 8, 0, 20 + (f % 1000 + i)⟩
 else ⟨1 + z % 6, (f % 1000 + i) % 8, 0, 0⟩
def kBl (z f : Int) (i : Nat) : List (List UInt8) := if z % 6 = 0 ∨ z % 6 = 3 ∨ z % 6 = 4 then [kBlk (f % 1000 + i).toNat] else []
def kIts (zs : List Int) (f : Int) : Nat → List It
 | 0 => []
 | i + 1 => kIts zs f i ++ [kIt (zs.getD i 0) f i]
def kBls (zs : List Int) (f : Int) : Nat → List (List UInt8)
 | 0 => []
 | i + 1 => kBls zs f i ++ kBl (zs.getD i 0) f i
def kItems (zs : List Int) (f : Int) : List It := if zs.length = 0 then [⟨3, 0, 0, 1⟩] else kIts zs f (min zs.length 6)
def kBlocks (zs : List Int) (f : Int) : List (List UInt8) := kBls zs f (min zs.length 6)
theorem kIts_length (zs : List Int) (f : Int) : ∀ i, (kIts zs f i).length = i
 | 0 => rfl
 | i + 1 => by rw [kIts, List.length_append, kIts_length zs f i]; rfl
/-- what Items answers -/
def ItBl (w : World) (l : List It) (bl : List (List UInt8)) (e : Ending) (w' : World) : Prop :=
 ∃ s t : Option Addr × Nat × Nat, e = .returned (.tuple #[slv s, slv t]) ∧ Fc w' (fun k => k < w.heap.size) (fun W => Its W s.1 s.2.1 s.2.2 l ∧ Blks W t.1 t.2.1 t.2.2 bl) ∧ Only [] w w'
theorem six (z : Int) : z % 6 = 0 ∨ z % 6 = 1 ∨ z % 6 = 2 ∨ z % 6 = 3 ∨ z % 6 = 4 ∨ z % 6 = 5 := by omega
end Go.Kn
namespace Go.Proofs.YtgcfdjcpcclcjaaGreat
open Go Go.RowKit Go.Kn
theorem kit_bytes_any (x : Nat) (w : World) (hx : x ≤ 100000) :
  Calls Tryz.prog 181 #[.int .i64 (x : Int)] w fun e w' => ∃ g, e = .returned (.slice (some ⟨g, 0, none⟩) 64 64) ∧ w.heap.size ≤ g ∧ Kn.Own w' g (bvs (kBlk x)) ∧ Only [] w w' := by
 have hmk : ∀ w : World, (Instr.makeSlice 47 (.int .i64 64) (.int .i64 64)).run Tryz.prog w = .ok (.slice (some ⟨w.heap.size, 0, none⟩) 64 64) (w.alloc (.cells (bvs (List.replicate 64 0)).toArray 5)) := make_bys 64 (by decide)
 go_enter Tryz.func181, Tryz.ntmps181
 go_wp2_with fail
 have h0 : Kn.Own (w.alloc (.cells (bvs (List.replicate 64 0)).toArray 5)) w.heap.size (bvs (kBlkP x 0)) := by
  rw [kBlkP_zero]
  exact Kn.Own.new w (bvs (List.replicate 64 0)).toArray 5
 have HO0 := hH ((Only.refl [] w).alloc (.cells (bvs (List.replicate 64 0)).toArray 5))
 have HW0 := hH h0
 clear h0 hmk
 go_loopg [4] 64 (fun r i wr => ∃ t : Nat, t + r = 64 ∧ i = .int .i64 t ∧ Kn.Own wr w.heap.size (bvs (kBlkP x t)) ∧ Only [] w wr)
 case atStart => exact ⟨0, by omega, rfl, HW0.out, HO0.out⟩
 obtain ⟨t, ht, rfl, hown, hO⟩ := hrel
 have HO := hH hO
 have HOWN := hH hown
 clear hO hown
 by_cases ht64 : t < 64
 ·have q0 := HOWN.out.cell t (by simpa using ht64)
  have f0 := HOWN.out.frozen t
  have hst := HOWN.out.set t (.int .u8 ((kAt x t).toNat : Int))
  have hse : (bvs (kBlkP x t)).set t (.int .u8 ((kAt x t).toNat : Int)) = bvs (kBlkP x (t + 1)) := by
   rw [← kBlkP_set x t ht64, bvs, bvs, List.map_set]
  rw [hse] at hst
  have HST := hH hst
  have hwr := kAt_wrap x t (by omega)
  generalize (bvs (kBlkP x t))[t] = old at *
  generalize (kAt x t).toNat = cc at *
  clear hst hse
  have hx1 : (t : Int) < 64 := by omega
  have hx0 : 0 ≤ (t : Int) := by omega
  have htt : ((t : Int)).toNat = t := by omega
  have hxx : (x : Int) ≤ 100000 := by omega
  go_wp2_with fail
  go_roundg (gk - 1)
  case measure => omega
  case rel => exact ⟨t + 1, by omega, by go_num, HST.out, HO.out.set (.inr (Nat.le_refl _)) _⟩
 obtain rfl : t = 64 := by omega
 have hown := HOWN.out
 rw [kBlkP_full] at hown
 have HF := hH hown
 go_wp2
 go_ret
 exact ⟨_, rfl, Nat.le_refl _, HF.out, HO.out⟩
theorem wc_itbl {w V : World} {L : List (Nat × List Value)} {F : List (World → Prop)} {A3 A4 : Option Addr} {j c3 kk c4 : Nat} {l : List It} {sl : List (Option Addr × Nat × Nat)} {bl : List (List UInt8)}
  (h : Wc w V L [⟨63, 4, .slice A3 j c3, j, itsV l⟩, ⟨47, 1, .slice A4 kk c4, kk, sl.map slv⟩] ((fun W => Bls W sl bl) :: F)) (hl : l.length = j) (hfr : ∀ s ∈ sl, ∀ a, s.1 = some a → w.heap.size ≤ a.block) :
  Fc V (fun k => k < w.heap.size) (fun W => Its W A3 j c3 l ∧ Blks W A4 kk c4 bl) := by
 obtain ⟨A, c, hv, hits, hb⟩ := GathN.its (h.gath (x := ⟨63, 4, .slice A3 j c3, j, itsV l⟩) List.mem_cons_self) hl
 injection hv with e1 e2 e3
 subst e1 e3
 obtain ⟨h1, h2⟩ := Row1.of_owns (h.gi 1 rfl)
 have f1 := Its.fc (M := fun k => k < w.heap.size) hits (fun h0 a ha hm => by
  subst ha
  have := (hb a.block rfl).1
  omega)
 have f2 := h1.fc (M := fun k => k < w.heap.size) (fun h0 a ha hm => by have := h2 h0 a ha; omega)
 have f3 := Bls.fc (M := fun k => k < w.heap.size) (h.fi 0 rfl) (fun s hs _ a ha hm => by have := hfr s hs a ha; omega)
 exact fun W hW => ⟨f1 W hW, sl, f2 W hW, f3 W hW⟩
theorem kIts_succ {zs : List Int} {f : Int} {j : Nat} {z : Int} (hz : zs.getD j 0 = z) {it : It} (h : kIt z f j = it) : itsV (kIts zs f j) ++ itsV [it] = itsV (kIts zs f (j + 1)) := by
 rw [← itsV_append, ← h, ← hz]
 rfl
theorem kBls_same {zs : List Int} {f : Int} {j : Nat} {z : Int} (hz : zs.getD j 0 = z) (h : kBl z f j = []) : kBls zs f (j + 1) = kBls zs f j := by
 show kBls zs f j ++ kBl (zs.getD j 0) f j = _
 rw [hz, h, List.append_nil]
theorem kBls_succ {zs : List Int} {f : Int} {j : Nat} {z : Int} (hz : zs.getD j 0 = z) {b : List UInt8} (h : kBl z f j = [b]) : kBls zs f (j + 1) = kBls zs f j ++ [b] := by
 show kBls zs f j ++ kBl (zs.getD j 0) f j = _
 rw [hz, h]
theorem kit_items_any (A : Option Addr) (n c : Nat) (zs : List Int) (f : Int) (w : World) (hi : Ins w A n c zs) (hwz : ∀ z ∈ zs, (Lit.int .i64 z).wf = true) (hf : (Lit.int .i64 f).wf = true) :
  Calls Tryz.prog 145 #[.slice A n c, .int .i64 f] w (ItBl w (kItems zs f) (kBlocks zs f)) := by
 obtain ⟨i0, hi0, hz0, hz1, hz2⟩ := info_parts Tryz.infoItem
 obtain ⟨i1, hi1, hy0, hy1, hy2⟩ := info_parts Tryz.infoBys
 have hlen := hi.len
 rw [ivs_length] at hlen
 have hnc := hi.le
 have hcm := hi.cm
 unfold maxLen at hcm
 have HL := hH hlen
 have HWZ := hH hwz
 have HWF := hH hf
 obtain ⟨m, hm⟩ : ∃ m, min n 6 = m := ⟨_, rfl⟩
 have hm1 : m ≤ n ∧ m ≤ 6 := by omega
 obtain ⟨hmn, hm6⟩ := hm1
 have HMM := hH hm
 have HD0 := hH (((Wc.start w).old (f := fun W => Ins W A n c zs) (Row1.fc hi (by simp))).gnew 47 1 |>.gnew 63 4)
 clear hi hlen hwz hf hm
 go_enter Tryz.func145, Tryz.ntmps145
 go_wp2_with fail
 go_loopg [6, 7, 8] m (fun r t6 t7 i wr => ∃ (j : Nat) (A3 : Option Addr) (c3 : Nat) (A4 : Option Addr) (kk c4 : Nat) (sl : List (Option Addr × Nat × Nat)), j + r = m ∧ i = .int .i64 j ∧ t6 = .slice A3 j c3 ∧ t7 = .slice A4 kk c4 ∧ kk ≤ j ∧ (∀ s ∈ sl, ∀ a, s.1 = some a → w.heap.size ≤ a.block) ∧
  Wc w wr [] [⟨63, 4, .slice A3 j c3, j, itsV (kIts zs f j)⟩, ⟨47, 1, .slice A4 kk c4, kk, sl.map slv⟩]
   [fun W => Bls W sl (kBls zs f j), fun W => Ins W A n c zs])
 case atStart => exact ⟨0, none, 0, none, 0, 0, [], by omega, rfl, rfl, rfl, Nat.le_refl _, by simp, HD0.out.addF _ (fun W _ => Bls.nil W)⟩
 obtain ⟨j, A3, c3, A4, kk, c4, sl, hj, rfl, rfl, rfl, hkj, hfr, hw⟩ := hrel
 have HFR := hH hfr
 have HD3 := hH hw
 clear HD0 hw hfr
 by_cases hlt : j < m
 ·have hjn : j < n := by omega
  have hjz : j < zs.length := by rw [HL.out]; exact hjn
  obtain ⟨a, oa, rfl, hc⟩ := (show Ins wr A n c zs from HD3.out.fi 1 rfl).at_ (by omega)
  have q0 := hc j (by rw [ivs_length]; exact hjz)
  rw [ivs_get] at q0
  have hzj : zs.getD j 0 = zs[j] := by simp [List.getD, List.getElem?_eq_getElem hjz]
  have hwz := HWZ.out zs[j] (List.getElem_mem _)
  obtain ⟨z, hz⟩ : ∃ z, zs[j] = z := ⟨_, rfl⟩
  rw [hz] at q0 hzj hwz
  have HZ := hH hzj
  clear hz hzj hc
  have hlt2 : (j : Int) < (n : Int) := by omega
  have hlt6 : (j : Int) < 6 := by omega
  have hge : 0 ≤ (j : Int) := by omega
  have htn : ((j : Int)).toNat = j := by omega
  go_wp2_with fail
  refine (mod_any z 6 _ hwz (by decide) (by decide)).mono ?_
  rintro en w3 ⟨rfl, rfl⟩
  clear q0 hwz
  have hff := HWF.out
  obtain ⟨fm, hfm⟩ : ∃ q, f % 1000 = q := ⟨_, rfl⟩
  have hfb : 0 ≤ fm ∧ fm < 1000 := by omega
  have HFM := hH hfm
  obtain ⟨bl, hbl0⟩ : ∃ q : Nat, fm + (j : Int) = (q : Int) := ⟨(fm + j).toNat, by omega⟩
  have HBL0 := hH hbl0
  have hblb : (bl : Int) ≤ 1005 := by omega
  have hbl00 : 0 ≤ (bl : Int) := by omega
  clear hfm hbl0
  rcases six z with hk | hk | hk | hk | hk | hk
  ·rw [hk]
   have hit : kIt z f j = ⟨1, (bl : Int) % 8, 0, 0⟩ := by unfold kIt; rw [HFM.out, HBL0.out, hk]; rfl
   have HIT := hH (kIts_succ HZ.out hit)
   have hbl : kBl z f j = [kBlk bl] := by unfold kBl; rw [HFM.out, HBL0.out, hk]; rfl
   have HBL := hH (kBls_succ HZ.out hbl)
   have hld : It.loaded ⟨1, (bl : Int) % 8, 0, 0⟩ = true := by
    unfold It.loaded It.may
    simp
    omega
   have HLD := hH hld
   clear hk hit hbl HZ hld
   go_wp2_with fail
   refine (mod_any f 1000 _ hff (by decide) (by decide)).mono ?_
   rintro en w3 ⟨rfl, rfl⟩
   rw [HFM.out]
   have hw9 : fm + (j : Int) = (bl : Int) := HBL0.out
   obtain ⟨hfb0, hfb1⟩ := hfb
   have HD4 := hH ((HD3.out.newB #[.int .i64 1, .int .i64 ((bl : Int) % 8), .int .i64 0, .int .i64 0] 63 rfl).alloc (.cells #[.int .i64 1, .int .i64 ((bl : Int) % 8), .int .i64 0, .int .i64 0] 63))
   have hnw := news_new (wr.alloc (.cells #[.int .i64 1, .int .i64 ((bl : Int) % 8), .int .i64 0, .int .i64 0] 63)) #[.int .i64 1, .int .i64 ((bl : Int) % 8), .int .i64 0, .int .i64 0] 63 (by simp [maxLen])
   have hsz1 : (wr.alloc (.cells #[.int .i64 1, .int .i64 ((bl : Int) % 8), .int .i64 0, .int .i64 0] 63)).heap.size = wr.heap.size + 1 := by simp
   rw [hsz1] at hnw
   have HNW := hH hnw
   have HON := hH (itsV_one [⟨1, (bl : Int) % 8, 0, 0⟩])
   have HBS := hH HD4.out.only.size
   clear hnw hsz1 HD3
   go_wp2_with (first
    | (at_builtin; refine wpList_append_own_at _ rfl (.tmp 55) (.tmp 57) 53 rfl w.heap.size 63 i0 _ 4 32 Tryz.underlying53 hi0 hz0 hz1 hz2 rfl (by decide) (.slice A3 j c3) j (itsV (kIts zs f j)) rfl (HD4.out.gi 0 rfl) ⟨wr.heap.size + 1, 0, none⟩ 1 1 (itsV [⟨1, (bl : Int) % 8, 0, 0⟩]) rfl rfl HNW.out HON.out (by unfold maxLen; omega) (by omega) HBS.out ?_; intro v5 w5 hown hgrow _ hat; rw [HIT.out] at hown; have hdd := HD4.out.gapp 0 rfl hown hgrow hat; obtain ⟨A6, c6, rfl⟩ := hdd.gform 0 rfl; simp only [List.set_cons_zero, List.set_cons_succ] at hdd; have HD5 := hH hdd; clear hdd hown hgrow hat HNW HON HBS HD4; have yb := HD5.out.boxi 0 rfl; have y0 := yb.cell 0 (by simp); have y1 := yb.cell 1 (by simp); have y2 := yb.cell 2 (by simp); have y3 := yb.cell 3 (by simp); simp only [g0, gs] at y0 y1 y2 y3; have yl := yb.lt)
    | fail)
   generalize wr.heap.size = fb at *
   refine (ref_item_loaded_any 1 ((bl : Int) % 8) 0 0 _).mono ?_
   rintro en w6 ⟨rfl, hO6⟩
   rw [HLD.out]
   have HD6 := hH ((HD5.out.keep0 hO6).ldrop)
   clear yb y0 y1 y2 y3 yl HD5 hO6
   go_wp2_with fail
   refine (kit_bytes_any bl _ (by omega)).mono ?_
   rintro en w7 ⟨g7, rfl, hg7, ho7, hO7⟩
   have HD7 := hH ((HD6.out.addFc hO7 (f := fun V => Bys V (some ⟨g7, 0, none⟩) 64 64 (kBlk bl)) (Row1.fc (Row1.of_Own ho7 (by simp) (Nat.le_refl _) (by simp [maxLen])) (fun _ a ha => by injection ha with ha; subst ha; simp; omega))).alloc (.cells #[.slice (some ⟨g7, 0, none⟩) 64 64] 47))
   have hnr : Row1 (w7.alloc (.cells #[.slice (some ⟨g7, 0, none⟩) 64 64] 47)) (some ⟨w7.heap.size, 0, none⟩) 1 1 ([(some ⟨g7, 0, none⟩, 64, 64)].map slv) := Row1.of_Own (Own.new w7 #[.slice (some ⟨g7, 0, none⟩) 64 64] 47) rfl (Nat.le_refl _) (by simp [maxLen])
   have HNR := hH hnr
   have HBS := hH HD7.out.only.size
   have HGW : Hid (w.heap.size ≤ g7) := hH (by have := HD6.out.only.size; omega)
   clear hnr ho7 hO7 hg7 HD6
   go_wp2_with (first
    | (at_builtin; refine wpList_append_row1 rfl (.tmp 61) (.tmp 64) 54 rfl w.heap.size 47 i1 _ 24 Tryz.underlying54 hi1 hy0 hy1 hy2 rfl (.slice A4 kk c4) kk (sl.map slv) rfl (HD7.out.gi 1 rfl) (some ⟨w7.heap.size, 0, none⟩) 1 1 ([(some ⟨g7, 0, none⟩, 64, 64)].map slv) rfl HNR.out (slv_one _) (by unfold maxLen; omega) (by omega) HBS.out ?_; intro v8 w8 hown hgrow hat; rw [← List.map_append] at hown; have hdd := HD7.out.gapp 1 rfl hown hgrow hat; obtain ⟨A8, c8, rfl⟩ := hdd.gform 1 rfl; simp only [List.set_cons_zero, List.set_cons_succ] at hdd; have HD8 := hH hdd; clear hdd hown hgrow hat HNR HBS HD7)
    | fail)
   go_roundg (gk - 1)
   case measure => omega
   refine ⟨j + 1, A6, c6, A8, kk + 1, c8, sl ++ [(some ⟨g7, 0, none⟩, 64, 64)], by omega, by go_num, rfl, rfl, by omega, fun s hs a ha => ?_, ?_⟩
   ·rcases List.mem_append.1 hs with hs | hs
    ·exact HFR.out s hs a ha
    simp at hs
    subst hs
    injection ha with ha
    subst ha
    exact HGW.out
   refine (HD8.out.fuse (f1 := fun V => Bys V (some ⟨g7, 0, none⟩) 64 64 (kBlk bl)) (f2 := fun V => Bls V sl (kBls zs f j)) (f := fun V => Bls V (sl ++ [(some ⟨g7, 0, none⟩, 64, 64)]) (kBls zs f (j + 1))) (by simp) (by simp) (fun V h1 h2 => by rw [HBL.out]; exact h2.snoc h1)).subF ?_
   intro f1 hf1
   simp only [List.mem_cons, List.not_mem_nil, or_false] at hf1 ⊢
   rcases hf1 with rfl | rfl <;> simp
  ·rw [hk]
   have hit : kIt z f j = ⟨2, (bl : Int) % 8, 1 + (bl : Int) % 3, 0⟩ := by unfold kIt; rw [HFM.out, HBL0.out, hk]; rfl
   have HIT := hH (kIts_succ HZ.out hit)
   have hbl : kBl z f j = [] := by unfold kBl; rw [hk]; rfl
   have HBL := hH (kBls_same HZ.out hbl)
   have hld : It.loaded ⟨2, (bl : Int) % 8, 1 + (bl : Int) % 3, 0⟩ = false := by
    unfold It.loaded It.may
    simp
    done
   have HLD := hH hld
   clear hk hit hbl HZ hld
   go_wp2_with fail
   refine (mod_any f 1000 _ hff (by decide) (by decide)).mono ?_
   rintro en w3 ⟨rfl, rfl⟩
   rw [HFM.out]
   have hw9 : fm + (j : Int) = (bl : Int) := HBL0.out
   obtain ⟨hfb0, hfb1⟩ := hfb
   have HD4 := hH ((HD3.out.newB #[.int .i64 2, .int .i64 ((bl : Int) % 8), .int .i64 (1 + (bl : Int) % 3), .int .i64 0] 63 rfl).alloc (.cells #[.int .i64 2, .int .i64 ((bl : Int) % 8), .int .i64 (1 + (bl : Int) % 3), .int .i64 0] 63))
   have hnw := news_new (wr.alloc (.cells #[.int .i64 2, .int .i64 ((bl : Int) % 8), .int .i64 (1 + (bl : Int) % 3), .int .i64 0] 63)) #[.int .i64 2, .int .i64 ((bl : Int) % 8), .int .i64 (1 + (bl : Int) % 3), .int .i64 0] 63 (by simp [maxLen])
   have hsz1 : (wr.alloc (.cells #[.int .i64 2, .int .i64 ((bl : Int) % 8), .int .i64 (1 + (bl : Int) % 3), .int .i64 0] 63)).heap.size = wr.heap.size + 1 := by simp
   rw [hsz1] at hnw
   have HNW := hH hnw
   have HON := hH (itsV_one [⟨2, (bl : Int) % 8, 1 + (bl : Int) % 3, 0⟩])
   have HBS := hH HD4.out.only.size
   clear hnw hsz1 HD3
   go_wp2_with (first
    | (at_builtin; refine wpList_append_own_at _ rfl (.tmp 55) (.tmp 57) 53 rfl w.heap.size 63 i0 _ 4 32 Tryz.underlying53 hi0 hz0 hz1 hz2 rfl (by decide) (.slice A3 j c3) j (itsV (kIts zs f j)) rfl (HD4.out.gi 0 rfl) ⟨wr.heap.size + 1, 0, none⟩ 1 1 (itsV [⟨2, (bl : Int) % 8, 1 + (bl : Int) % 3, 0⟩]) rfl rfl HNW.out HON.out (by unfold maxLen; omega) (by omega) HBS.out ?_; intro v5 w5 hown hgrow _ hat; rw [HIT.out] at hown; have hdd := HD4.out.gapp 0 rfl hown hgrow hat; obtain ⟨A6, c6, rfl⟩ := hdd.gform 0 rfl; simp only [List.set_cons_zero, List.set_cons_succ] at hdd; have HD5 := hH hdd; clear hdd hown hgrow hat HNW HON HBS HD4; have yb := HD5.out.boxi 0 rfl; have y0 := yb.cell 0 (by simp); have y1 := yb.cell 1 (by simp); have y2 := yb.cell 2 (by simp); have y3 := yb.cell 3 (by simp); simp only [g0, gs] at y0 y1 y2 y3; have yl := yb.lt)
    | fail)
   generalize wr.heap.size = fb at *
   refine (ref_item_loaded_any 2 ((bl : Int) % 8) (1 + (bl : Int) % 3) 0 _).mono ?_
   rintro en w6 ⟨rfl, hO6⟩
   rw [HLD.out]
   have HD6 := hH ((HD5.out.keep0 hO6).ldrop)
   clear yb y0 y1 y2 y3 yl HD5 hO6
   go_wp2_with fail
   go_roundg (gk - 1)
   case measure => omega
   refine ⟨j + 1, A6, c6, A4, kk, c4, sl, by omega, by go_num, rfl, rfl, by omega, HFR.out, ?_⟩
   rw [HBL.out]
   exact HD6.out
  ·rw [hk]
   have hit : kIt z f j = ⟨3, 0, 0, 1 + (bl : Int)⟩ := by unfold kIt; rw [HFM.out, HBL0.out, hk]; rfl
   have HIT := hH (kIts_succ HZ.out hit)
   have hbl : kBl z f j = [] := by unfold kBl; rw [hk]; rfl
   have HBL := hH (kBls_same HZ.out hbl)
   have hld : It.loaded ⟨3, 0, 0, 1 + (bl : Int)⟩ = false := by
    unfold It.loaded It.may
    simp
    done
   have HLD := hH hld
   clear hk hit hbl HZ hld
   go_wp2_with fail
   refine (mod_any f 1000 _ hff (by decide) (by decide)).mono ?_
   rintro en w3 ⟨rfl, rfl⟩
   rw [HFM.out]
   have hw9 : fm + (j : Int) = (bl : Int) := HBL0.out
   obtain ⟨hfb0, hfb1⟩ := hfb
   have HD4 := hH ((HD3.out.newB #[.int .i64 3, .int .i64 0, .int .i64 0, .int .i64 (1 + (bl : Int))] 63 rfl).alloc (.cells #[.int .i64 3, .int .i64 0, .int .i64 0, .int .i64 (1 + (bl : Int))] 63))
   have hnw := news_new (wr.alloc (.cells #[.int .i64 3, .int .i64 0, .int .i64 0, .int .i64 (1 + (bl : Int))] 63)) #[.int .i64 3, .int .i64 0, .int .i64 0, .int .i64 (1 + (bl : Int))] 63 (by simp [maxLen])
   have hsz1 : (wr.alloc (.cells #[.int .i64 3, .int .i64 0, .int .i64 0, .int .i64 (1 + (bl : Int))] 63)).heap.size = wr.heap.size + 1 := by simp
   rw [hsz1] at hnw
   have HNW := hH hnw
   have HON := hH (itsV_one [⟨3, 0, 0, 1 + (bl : Int)⟩])
   have HBS := hH HD4.out.only.size
   clear hnw hsz1 HD3
   go_wp2_with (first
    | (at_builtin; refine wpList_append_own_at _ rfl (.tmp 55) (.tmp 57) 53 rfl w.heap.size 63 i0 _ 4 32 Tryz.underlying53 hi0 hz0 hz1 hz2 rfl (by decide) (.slice A3 j c3) j (itsV (kIts zs f j)) rfl (HD4.out.gi 0 rfl) ⟨wr.heap.size + 1, 0, none⟩ 1 1 (itsV [⟨3, 0, 0, 1 + (bl : Int)⟩]) rfl rfl HNW.out HON.out (by unfold maxLen; omega) (by omega) HBS.out ?_; intro v5 w5 hown hgrow _ hat; rw [HIT.out] at hown; have hdd := HD4.out.gapp 0 rfl hown hgrow hat; obtain ⟨A6, c6, rfl⟩ := hdd.gform 0 rfl; simp only [List.set_cons_zero, List.set_cons_succ] at hdd; have HD5 := hH hdd; clear hdd hown hgrow hat HNW HON HBS HD4; have yb := HD5.out.boxi 0 rfl; have y0 := yb.cell 0 (by simp); have y1 := yb.cell 1 (by simp); have y2 := yb.cell 2 (by simp); have y3 := yb.cell 3 (by simp); simp only [g0, gs] at y0 y1 y2 y3; have yl := yb.lt)
    | fail)
   generalize wr.heap.size = fb at *
   refine (ref_item_loaded_any 3 0 0 (1 + (bl : Int)) _).mono ?_
   rintro en w6 ⟨rfl, hO6⟩
   rw [HLD.out]
   have HD6 := hH ((HD5.out.keep0 hO6).ldrop)
   clear yb y0 y1 y2 y3 yl HD5 hO6
   go_wp2_with fail
   go_roundg (gk - 1)
   case measure => omega
   refine ⟨j + 1, A6, c6, A4, kk, c4, sl, by omega, by go_num, rfl, rfl, by omega, HFR.out, ?_⟩
   rw [HBL.out]
   exact HD6.out
  ·rw [hk]
   have hit : kIt z f j = ⟨4, (bl : Int) % 8, 0, 20 + (bl : Int)⟩ := by unfold kIt; rw [HFM.out, HBL0.out, hk]; rfl
   have HIT := hH (kIts_succ HZ.out hit)
   have hbl : kBl z f j = [kBlk bl] := by unfold kBl; rw [HFM.out, HBL0.out, hk]; rfl
   have HBL := hH (kBls_succ HZ.out hbl)
   have hld : It.loaded ⟨4, (bl : Int) % 8, 0, 20 + (bl : Int)⟩ = true := by
    unfold It.loaded It.may
    simp
    omega
   have HLD := hH hld
   clear hk hit hbl HZ hld
   go_wp2_with fail
   refine (mod_any f 1000 _ hff (by decide) (by decide)).mono ?_
   rintro en w3 ⟨rfl, rfl⟩
   rw [HFM.out]
   have hw9 : fm + (j : Int) = (bl : Int) := HBL0.out
   obtain ⟨hfb0, hfb1⟩ := hfb
   have HD4 := hH ((HD3.out.newB #[.int .i64 4, .int .i64 ((bl : Int) % 8), .int .i64 0, .int .i64 (20 + (bl : Int))] 63 rfl).alloc (.cells #[.int .i64 4, .int .i64 ((bl : Int) % 8), .int .i64 0, .int .i64 (20 + (bl : Int))] 63))
   have hnw := news_new (wr.alloc (.cells #[.int .i64 4, .int .i64 ((bl : Int) % 8), .int .i64 0, .int .i64 (20 + (bl : Int))] 63)) #[.int .i64 4, .int .i64 ((bl : Int) % 8), .int .i64 0, .int .i64 (20 + (bl : Int))] 63 (by simp [maxLen])
   have hsz1 : (wr.alloc (.cells #[.int .i64 4, .int .i64 ((bl : Int) % 8), .int .i64 0, .int .i64 (20 + (bl : Int))] 63)).heap.size = wr.heap.size + 1 := by simp
   rw [hsz1] at hnw
   have HNW := hH hnw
   have HON := hH (itsV_one [⟨4, (bl : Int) % 8, 0, 20 + (bl : Int)⟩])
   have HBS := hH HD4.out.only.size
   clear hnw hsz1 HD3
   go_wp2_with (first
    | (at_builtin; refine wpList_append_own_at _ rfl (.tmp 55) (.tmp 57) 53 rfl w.heap.size 63 i0 _ 4 32 Tryz.underlying53 hi0 hz0 hz1 hz2 rfl (by decide) (.slice A3 j c3) j (itsV (kIts zs f j)) rfl (HD4.out.gi 0 rfl) ⟨wr.heap.size + 1, 0, none⟩ 1 1 (itsV [⟨4, (bl : Int) % 8, 0, 20 + (bl : Int)⟩]) rfl rfl HNW.out HON.out (by unfold maxLen; omega) (by omega) HBS.out ?_; intro v5 w5 hown hgrow _ hat; rw [HIT.out] at hown; have hdd := HD4.out.gapp 0 rfl hown hgrow hat; obtain ⟨A6, c6, rfl⟩ := hdd.gform 0 rfl; simp only [List.set_cons_zero, List.set_cons_succ] at hdd; have HD5 := hH hdd; clear hdd hown hgrow hat HNW HON HBS HD4; have yb := HD5.out.boxi 0 rfl; have y0 := yb.cell 0 (by simp); have y1 := yb.cell 1 (by simp); have y2 := yb.cell 2 (by simp); have y3 := yb.cell 3 (by simp); simp only [g0, gs] at y0 y1 y2 y3; have yl := yb.lt)
    | fail)
   generalize wr.heap.size = fb at *
   refine (ref_item_loaded_any 4 ((bl : Int) % 8) 0 (20 + (bl : Int)) _).mono ?_
   rintro en w6 ⟨rfl, hO6⟩
   rw [HLD.out]
   have HD6 := hH ((HD5.out.keep0 hO6).ldrop)
   clear yb y0 y1 y2 y3 yl HD5 hO6
   go_wp2_with fail
   refine (kit_bytes_any bl _ (by omega)).mono ?_
   rintro en w7 ⟨g7, rfl, hg7, ho7, hO7⟩
   have HD7 := hH ((HD6.out.addFc hO7 (f := fun V => Bys V (some ⟨g7, 0, none⟩) 64 64 (kBlk bl)) (Row1.fc (Row1.of_Own ho7 (by simp) (Nat.le_refl _) (by simp [maxLen])) (fun _ a ha => by injection ha with ha; subst ha; simp; omega))).alloc (.cells #[.slice (some ⟨g7, 0, none⟩) 64 64] 47))
   have hnr : Row1 (w7.alloc (.cells #[.slice (some ⟨g7, 0, none⟩) 64 64] 47)) (some ⟨w7.heap.size, 0, none⟩) 1 1 ([(some ⟨g7, 0, none⟩, 64, 64)].map slv) := Row1.of_Own (Own.new w7 #[.slice (some ⟨g7, 0, none⟩) 64 64] 47) rfl (Nat.le_refl _) (by simp [maxLen])
   have HNR := hH hnr
   have HBS := hH HD7.out.only.size
   have HGW : Hid (w.heap.size ≤ g7) := hH (by have := HD6.out.only.size; omega)
   clear hnr ho7 hO7 hg7 HD6
   go_wp2_with (first
    | (at_builtin; refine wpList_append_row1 rfl (.tmp 61) (.tmp 64) 54 rfl w.heap.size 47 i1 _ 24 Tryz.underlying54 hi1 hy0 hy1 hy2 rfl (.slice A4 kk c4) kk (sl.map slv) rfl (HD7.out.gi 1 rfl) (some ⟨w7.heap.size, 0, none⟩) 1 1 ([(some ⟨g7, 0, none⟩, 64, 64)].map slv) rfl HNR.out (slv_one _) (by unfold maxLen; omega) (by omega) HBS.out ?_; intro v8 w8 hown hgrow hat; rw [← List.map_append] at hown; have hdd := HD7.out.gapp 1 rfl hown hgrow hat; obtain ⟨A8, c8, rfl⟩ := hdd.gform 1 rfl; simp only [List.set_cons_zero, List.set_cons_succ] at hdd; have HD8 := hH hdd; clear hdd hown hgrow hat HNR HBS HD7)
    | fail)
   go_roundg (gk - 1)
   case measure => omega
   refine ⟨j + 1, A6, c6, A8, kk + 1, c8, sl ++ [(some ⟨g7, 0, none⟩, 64, 64)], by omega, by go_num, rfl, rfl, by omega, fun s hs a ha => ?_, ?_⟩
   ·rcases List.mem_append.1 hs with hs | hs
    ·exact HFR.out s hs a ha
    simp at hs
    subst hs
    injection ha with ha
    subst ha
    exact HGW.out
   refine (HD8.out.fuse (f1 := fun V => Bys V (some ⟨g7, 0, none⟩) 64 64 (kBlk bl)) (f2 := fun V => Bls V sl (kBls zs f j)) (f := fun V => Bls V (sl ++ [(some ⟨g7, 0, none⟩, 64, 64)]) (kBls zs f (j + 1))) (by simp) (by simp) (fun V h1 h2 => by rw [HBL.out]; exact h2.snoc h1)).subF ?_
   intro f1 hf1
   simp only [List.mem_cons, List.not_mem_nil, or_false] at hf1 ⊢
   rcases hf1 with rfl | rfl <;> simp
  ·rw [hk]
   have hit : kIt z f j = ⟨5, (bl : Int) % 8, 0, 0⟩ := by unfold kIt; rw [HFM.out, HBL0.out, hk]; rfl
   have HIT := hH (kIts_succ HZ.out hit)
   have hbl : kBl z f j = [kBlk bl] := by unfold kBl; rw [HFM.out, HBL0.out, hk]; rfl
   have HBL := hH (kBls_succ HZ.out hbl)
   have hld : It.loaded ⟨5, (bl : Int) % 8, 0, 0⟩ = true := by
    unfold It.loaded It.may
    simp
    omega
   have HLD := hH hld
   clear hk hit hbl HZ hld
   go_wp2_with fail
   refine (mod_any f 1000 _ hff (by decide) (by decide)).mono ?_
   rintro en w3 ⟨rfl, rfl⟩
   rw [HFM.out]
   have hw9 : fm + (j : Int) = (bl : Int) := HBL0.out
   obtain ⟨hfb0, hfb1⟩ := hfb
   have HD4 := hH ((HD3.out.newB #[.int .i64 5, .int .i64 ((bl : Int) % 8), .int .i64 0, .int .i64 0] 63 rfl).alloc (.cells #[.int .i64 5, .int .i64 ((bl : Int) % 8), .int .i64 0, .int .i64 0] 63))
   have hnw := news_new (wr.alloc (.cells #[.int .i64 5, .int .i64 ((bl : Int) % 8), .int .i64 0, .int .i64 0] 63)) #[.int .i64 5, .int .i64 ((bl : Int) % 8), .int .i64 0, .int .i64 0] 63 (by simp [maxLen])
   have hsz1 : (wr.alloc (.cells #[.int .i64 5, .int .i64 ((bl : Int) % 8), .int .i64 0, .int .i64 0] 63)).heap.size = wr.heap.size + 1 := by simp
   rw [hsz1] at hnw
   have HNW := hH hnw
   have HON := hH (itsV_one [⟨5, (bl : Int) % 8, 0, 0⟩])
   have HBS := hH HD4.out.only.size
   clear hnw hsz1 HD3
   go_wp2_with (first
    | (at_builtin; refine wpList_append_own_at _ rfl (.tmp 55) (.tmp 57) 53 rfl w.heap.size 63 i0 _ 4 32 Tryz.underlying53 hi0 hz0 hz1 hz2 rfl (by decide) (.slice A3 j c3) j (itsV (kIts zs f j)) rfl (HD4.out.gi 0 rfl) ⟨wr.heap.size + 1, 0, none⟩ 1 1 (itsV [⟨5, (bl : Int) % 8, 0, 0⟩]) rfl rfl HNW.out HON.out (by unfold maxLen; omega) (by omega) HBS.out ?_; intro v5 w5 hown hgrow _ hat; rw [HIT.out] at hown; have hdd := HD4.out.gapp 0 rfl hown hgrow hat; obtain ⟨A6, c6, rfl⟩ := hdd.gform 0 rfl; simp only [List.set_cons_zero, List.set_cons_succ] at hdd; have HD5 := hH hdd; clear hdd hown hgrow hat HNW HON HBS HD4; have yb := HD5.out.boxi 0 rfl; have y0 := yb.cell 0 (by simp); have y1 := yb.cell 1 (by simp); have y2 := yb.cell 2 (by simp); have y3 := yb.cell 3 (by simp); simp only [g0, gs] at y0 y1 y2 y3; have yl := yb.lt)
    | fail)
   generalize wr.heap.size = fb at *
   refine (ref_item_loaded_any 5 ((bl : Int) % 8) 0 0 _).mono ?_
   rintro en w6 ⟨rfl, hO6⟩
   rw [HLD.out]
   have HD6 := hH ((HD5.out.keep0 hO6).ldrop)
   clear yb y0 y1 y2 y3 yl HD5 hO6
   go_wp2_with fail
   refine (kit_bytes_any bl _ (by omega)).mono ?_
   rintro en w7 ⟨g7, rfl, hg7, ho7, hO7⟩
   have HD7 := hH ((HD6.out.addFc hO7 (f := fun V => Bys V (some ⟨g7, 0, none⟩) 64 64 (kBlk bl)) (Row1.fc (Row1.of_Own ho7 (by simp) (Nat.le_refl _) (by simp [maxLen])) (fun _ a ha => by injection ha with ha; subst ha; simp; omega))).alloc (.cells #[.slice (some ⟨g7, 0, none⟩) 64 64] 47))
   have hnr : Row1 (w7.alloc (.cells #[.slice (some ⟨g7, 0, none⟩) 64 64] 47)) (some ⟨w7.heap.size, 0, none⟩) 1 1 ([(some ⟨g7, 0, none⟩, 64, 64)].map slv) := Row1.of_Own (Own.new w7 #[.slice (some ⟨g7, 0, none⟩) 64 64] 47) rfl (Nat.le_refl _) (by simp [maxLen])
   have HNR := hH hnr
   have HBS := hH HD7.out.only.size
   have HGW : Hid (w.heap.size ≤ g7) := hH (by have := HD6.out.only.size; omega)
   clear hnr ho7 hO7 hg7 HD6
   go_wp2_with (first
    | (at_builtin; refine wpList_append_row1 rfl (.tmp 61) (.tmp 64) 54 rfl w.heap.size 47 i1 _ 24 Tryz.underlying54 hi1 hy0 hy1 hy2 rfl (.slice A4 kk c4) kk (sl.map slv) rfl (HD7.out.gi 1 rfl) (some ⟨w7.heap.size, 0, none⟩) 1 1 ([(some ⟨g7, 0, none⟩, 64, 64)].map slv) rfl HNR.out (slv_one _) (by unfold maxLen; omega) (by omega) HBS.out ?_; intro v8 w8 hown hgrow hat; rw [← List.map_append] at hown; have hdd := HD7.out.gapp 1 rfl hown hgrow hat; obtain ⟨A8, c8, rfl⟩ := hdd.gform 1 rfl; simp only [List.set_cons_zero, List.set_cons_succ] at hdd; have HD8 := hH hdd; clear hdd hown hgrow hat HNR HBS HD7)
    | fail)
   go_roundg (gk - 1)
   case measure => omega
   refine ⟨j + 1, A6, c6, A8, kk + 1, c8, sl ++ [(some ⟨g7, 0, none⟩, 64, 64)], by omega, by go_num, rfl, rfl, by omega, fun s hs a ha => ?_, ?_⟩
   ·rcases List.mem_append.1 hs with hs | hs
    ·exact HFR.out s hs a ha
    simp at hs
    subst hs
    injection ha with ha
    subst ha
    exact HGW.out
   refine (HD8.out.fuse (f1 := fun V => Bys V (some ⟨g7, 0, none⟩) 64 64 (kBlk bl)) (f2 := fun V => Bls V sl (kBls zs f j)) (f := fun V => Bls V (sl ++ [(some ⟨g7, 0, none⟩, 64, 64)]) (kBls zs f (j + 1))) (by simp) (by simp) (fun V h1 h2 => by rw [HBL.out]; exact h2.snoc h1)).subF ?_
   intro f1 hf1
   simp only [List.mem_cons, List.not_mem_nil, or_false] at hf1 ⊢
   rcases hf1 with rfl | rfl <;> simp
  rw [hk]
  have hit : kIt z f j = ⟨6, (bl : Int) % 8, 1 + (bl : Int) % 3, 0⟩ := by unfold kIt; rw [HFM.out, HBL0.out, hk]; rfl
  have HIT := hH (kIts_succ HZ.out hit)
  have hbl : kBl z f j = [] := by unfold kBl; rw [hk]; rfl
  have HBL := hH (kBls_same HZ.out hbl)
  have hld : It.loaded ⟨6, (bl : Int) % 8, 1 + (bl : Int) % 3, 0⟩ = false := by
   unfold It.loaded It.may
   simp
   done
  have HLD := hH hld
  clear hk hit hbl HZ hld
  go_wp2_with fail
  refine (mod_any f 1000 _ hff (by decide) (by decide)).mono ?_
  rintro en w3 ⟨rfl, rfl⟩
  rw [HFM.out]
  have hw9 : fm + (j : Int) = (bl : Int) := HBL0.out
  obtain ⟨hfb0, hfb1⟩ := hfb
  have HD4 := hH ((HD3.out.newB #[.int .i64 6, .int .i64 ((bl : Int) % 8), .int .i64 (1 + (bl : Int) % 3), .int .i64 0] 63 rfl).alloc (.cells #[.int .i64 6, .int .i64 ((bl : Int) % 8), .int .i64 (1 + (bl : Int) % 3), .int .i64 0] 63))
  have hnw := news_new (wr.alloc (.cells #[.int .i64 6, .int .i64 ((bl : Int) % 8), .int .i64 (1 + (bl : Int) % 3), .int .i64 0] 63)) #[.int .i64 6, .int .i64 ((bl : Int) % 8), .int .i64 (1 + (bl : Int) % 3), .int .i64 0] 63 (by simp [maxLen])
  have hsz1 : (wr.alloc (.cells #[.int .i64 6, .int .i64 ((bl : Int) % 8), .int .i64 (1 + (bl : Int) % 3), .int .i64 0] 63)).heap.size = wr.heap.size + 1 := by simp
  rw [hsz1] at hnw
  have HNW := hH hnw
  have HON := hH (itsV_one [⟨6, (bl : Int) % 8, 1 + (bl : Int) % 3, 0⟩])
  have HBS := hH HD4.out.only.size
  clear hnw hsz1 HD3
  go_wp2_with (first
   | (at_builtin; refine wpList_append_own_at _ rfl (.tmp 55) (.tmp 57) 53 rfl w.heap.size 63 i0 _ 4 32 Tryz.underlying53 hi0 hz0 hz1 hz2 rfl (by decide) (.slice A3 j c3) j (itsV (kIts zs f j)) rfl (HD4.out.gi 0 rfl) ⟨wr.heap.size + 1, 0, none⟩ 1 1 (itsV [⟨6, (bl : Int) % 8, 1 + (bl : Int) % 3, 0⟩]) rfl rfl HNW.out HON.out (by unfold maxLen; omega) (by omega) HBS.out ?_; intro v5 w5 hown hgrow _ hat; rw [HIT.out] at hown; have hdd := HD4.out.gapp 0 rfl hown hgrow hat; obtain ⟨A6, c6, rfl⟩ := hdd.gform 0 rfl; simp only [List.set_cons_zero, List.set_cons_succ] at hdd; have HD5 := hH hdd; clear hdd hown hgrow hat HNW HON HBS HD4; have yb := HD5.out.boxi 0 rfl; have y0 := yb.cell 0 (by simp); have y1 := yb.cell 1 (by simp); have y2 := yb.cell 2 (by simp); have y3 := yb.cell 3 (by simp); simp only [g0, gs] at y0 y1 y2 y3; have yl := yb.lt)
   | fail)
  generalize wr.heap.size = fb at *
  refine (ref_item_loaded_any 6 ((bl : Int) % 8) (1 + (bl : Int) % 3) 0 _).mono ?_
  rintro en w6 ⟨rfl, hO6⟩
  rw [HLD.out]
  have HD6 := hH ((HD5.out.keep0 hO6).ldrop)
  clear yb y0 y1 y2 y3 yl HD5 hO6
  go_wp2_with fail
  go_roundg (gk - 1)
  case measure => omega
  refine ⟨j + 1, A6, c6, A4, kk, c4, sl, by omega, by go_num, rfl, rfl, by omega, HFR.out, ?_⟩
  rw [HBL.out]
  exact HD6.out
 obtain rfl : j = m := by omega
 have hcond : ¬ ((j : Int) < (n : Int) ∧ (j : Int) < 6) := by have := HMM.out; omega
 by_cases hn0 : n = 0
 ·subst hn0
  obtain rfl : j = 0 := by omega
  obtain rfl : kk = 0 := by omega
  have e1 : kItems zs f = [⟨3, 0, 0, 1⟩] := by unfold kItems; rw [if_pos HL.out]
  have e2 : kBlocks zs f = kBls zs f 0 := by unfold kBlocks; rw [HL.out]; rfl
  have E1 := hH e1
  have E2 := hH e2
  have HD4 := hH (HD3.out.alloc (.cells #[.int .i64 3, .int .i64 0, .int .i64 0, .int .i64 1] 63))
  have hnw := news_new wr #[.int .i64 3, .int .i64 0, .int .i64 0, .int .i64 1] 63 (by simp [maxLen])
  have HNW := hH hnw
  have HON := hH (itsV_one [⟨3, 0, 0, 1⟩])
  have HBS := hH HD4.out.only.size
  clear hnw HD3 e1 e2 hcond
  go_wp2_with (first
   | (at_builtin; refine wpList_append_own_at _ rfl (.tmp 69) (.tmp 71) 53 rfl w.heap.size 63 i0 _ 4 32 Tryz.underlying53 hi0 hz0 hz1 hz2 rfl (by decide) (.slice A3 0 c3) 0 (itsV (kIts zs f 0)) rfl (HD4.out.gi 0 rfl) ⟨wr.heap.size, 0, none⟩ 1 1 (itsV [⟨3, 0, 0, 1⟩]) rfl rfl HNW.out HON.out (by unfold maxLen; omega) (by omega) HBS.out ?_; intro v5 w5 hown hgrow _ hat; have hdd := HD4.out.gapp 0 rfl hown hgrow hat; obtain ⟨A6, c6, rfl⟩ := hdd.gform 0 rfl; simp only [List.set_cons_zero, List.set_cons_succ] at hdd; have HD5 := hH hdd; clear hdd hown hgrow hat HNW HON HBS HD4)
   | fail)
  go_ret2
  rw [E1.out, E2.out]
  exact ⟨(A6, 1, c6), (A4, 0, c4), rfl, wc_itbl (l := [⟨3, 0, 0, 1⟩]) HD5.out rfl HFR.out, HD5.out.only⟩
 have e1 : kItems zs f = kIts zs f j := by unfold kItems; rw [if_neg (by rw [HL.out]; exact hn0), HL.out, HMM.out]
 have e2 : kBlocks zs f = kBls zs f j := by unfold kBlocks; rw [HL.out, HMM.out]
 have E1 := hH e1
 have E2 := hH e2
 have hj0 : 0 < j := by have := HMM.out; omega
 have hj1 : ((j : Int) == 0) = false := by simp; omega
 clear e1 e2
 by_cases hjn : (j : Int) < (n : Int)
 ·have hj6 : ¬ (j : Int) < 6 := by omega
  clear hcond
  go_wp2
  go_ret2
  rw [E1.out, E2.out]
  exact ⟨(A3, j, c3), (A4, kk, c4), rfl, wc_itbl HD3.out (kIts_length zs f j) HFR.out, HD3.out.only⟩
 clear hcond
 go_wp2
 go_ret2
 rw [E1.out, E2.out]
 exact ⟨(A3, j, c3), (A4, kk, c4), rfl, wc_itbl HD3.out (kIts_length zs f j) HFR.out, HD3.out.only⟩
end Go.Proofs.YtgcfdjcpcclcjaaGreat
namespace Go.Kn
open Go Go.RowKit
/-- a record as it is laid on a disk -/
structure KR where
 kinds : List Int
 fill : Int
 skew : Int
 twist : Int
 up : Int
def kMount (p : Ps) (r : KR) : Int := max (p.m + (r.up + 3) % 7 - 3) 1
def kLsn (p : Ps) (r : KR) : Int := max (p.l + (r.skew + 2) % 5 - 2) 1
def kPrev (p : Ps) (r : KR) : Int := (p.p + r.twist % 3) % 4294967296
def kMade (p : Ps) (r : KR) : Rc := ⟨kMount p r, kLsn p r, kPrev p r, kItems r.kinds r.fill, kBlocks r.kinds r.fill⟩
structure KR.Wf (r : KR) : Prop where
 kinds : ∀ z ∈ r.kinds, (Lit.int .i64 z).wf = true
 fill : (Lit.int .i64 r.fill).wf = true
 twist : (Lit.int .i64 r.twist).wf = true
 skew : -1000 ≤ r.skew ∧ r.skew ≤ 1000
 up : -1000 ≤ r.up ∧ r.up ≤ 1000
structure Ps.Wf (p : Ps) : Prop where
 m : -1000000000000 ≤ p.m ∧ p.m ≤ 1000000000000
 l : -1000000000000 ≤ p.l ∧ p.l ≤ 1000000000000
 p : -1000000000000 ≤ p.p ∧ p.p ≤ 1000000000000
/-- what makes a record -/
def RcMade (w : World) (r : Rc) (e : Ending) (w' : World) : Prop :=
 ∃ s t : Option Addr × Nat × Nat, e = .returned (.agg (r.cells s t)) ∧ Fc w' (fun k => k < w.heap.size) (fun W => RcAt W r s t) ∧ Only [] w w'
theorem wf_small {z : Int} (h1 : -4611686018427387904 ≤ z) (h2 : z ≤ 4611686018427387904) : (Lit.int .i64 z).wf = true := by
 simp [Lit.wf, IntKind.min, IntKind.max, IntKind.signed, IntKind.bits]
 omega
end Go.Kn
namespace Go.Proofs.YtgcfdjcpcclcjaaGreat
open Go Go.RowKit Go.Kn
theorem exec_max {P : Program} {o : Oper} {a : Act} {w : World} {x y : Operand} {t1 t2 : TypeId} (hop : o.op = .call { callee := .builtin .max, args := #[x, y], argTypes := #[t1, t2] }) {p q : Int} (hx : a.eval x = .int .i64 p) (hy : a.eval y = .int .i64 q) :
  (execOp a.eval o).run P w = .ok (.value (.int .i64 (max p q))) w := by
 have e : (if q > p then q else p) = max p q := by
  split
  ·omega
  omega
 unfold execOp
 simp [hop, resolve, invoke, builtin, hx, hy, Builtin.max_, Builtin.max2, e]
theorem kit_made_any (p : Ps) (r : KR) (A : Option Addr) (n cc : Nat) (w : World) (hi : Ins w A n cc r.kinds) (hp : p.Wf) (hr : r.Wf) :
  Calls Tryz.prog 79 #[.agg #[.int .i64 p.s, .int .i64 p.o, .int .i64 p.l, .int .i64 p.p, .int .i64 p.m], .agg #[.slice A n cc, .int .i64 r.fill, .int .i64 r.skew, .int .i64 r.twist, .int .i64 r.up]] w (RcMade w (kMade p r)) := by
 have hres : Tryz.f79.results = #[.cell 4 56] := by kernel_rfl
 have HRES := hH hres
 have HI := hH hi
 have HW1 := hH hr.kinds
 have HW2 := hH hr.fill
 have htw := hr.twist
 obtain ⟨hs0, hs1⟩ := hr.skew
 obtain ⟨hu0, hu1⟩ := hr.up
 obtain ⟨hm0, hm1⟩ := hp.m
 obtain ⟨hl0, hl1⟩ := hp.l
 obtain ⟨hq0, hq1⟩ := hp.p
 have HE : Hid (kMade p r = ⟨max (p.m + (r.up + 3) % 7 - 3) 1, max (p.l + (r.skew + 2) % 5 - 2) 1, (p.p + r.twist % 3) % 4294967296, kItems r.kinds r.fill, kBlocks r.kinds r.fill⟩) := hH rfl
 have HD0 := hH ((((Wc.start w).newB #[.int .i64 p.s, .int .i64 p.o, .int .i64 p.l, .int .i64 p.p, .int .i64 p.m] 32 rfl).newB #[.slice A n cc, .int .i64 r.fill, .int .i64 r.skew, .int .i64 r.twist, .int .i64 r.up] 38 rfl).newB #[.int .i64 0, .int .i64 0, .int .i64 0, .slice none 0 0, .slice none 0 0] 56 rfl)
 have HI0 := hH (((hi.alloc (.cells #[.int .i64 p.s, .int .i64 p.o, .int .i64 p.l, .int .i64 p.p, .int .i64 p.m] 32)).alloc (.cells #[.slice A n cc, .int .i64 r.fill, .int .i64 r.skew, .int .i64 r.twist, .int .i64 r.up] 38)).alloc (.cells #[.int .i64 0, .int .i64 0, .int .i64 0, .slice none 0 0, .slice none 0 0] 56))
 clear hi hres hr hp HI
 go_enter Tryz.func79, Tryz.ntmps79
 go_wp2_with fail
 generalize hz1 : ((w.alloc (.cells #[.int .i64 p.s, .int .i64 p.o, .int .i64 p.l, .int .i64 p.p, .int .i64 p.m] 32)).alloc (.cells #[.slice A n cc, .int .i64 r.fill, .int .i64 r.skew, .int .i64 r.twist, .int .i64 r.up] 38)).alloc (.cells #[.int .i64 0, .int .i64 0, .int .i64 0, .slice none 0 0, .slice none 0 0] 56) = w1 at *
 have hs1 : (w.alloc (.cells #[.int .i64 p.s, .int .i64 p.o, .int .i64 p.l, .int .i64 p.p, .int .i64 p.m] 32)).heap.size = w.heap.size + 1 := by simp
 have hs2 : ((w.alloc (.cells #[.int .i64 p.s, .int .i64 p.o, .int .i64 p.l, .int .i64 p.p, .int .i64 p.m] 32)).alloc (.cells #[.slice A n cc, .int .i64 r.fill, .int .i64 r.skew, .int .i64 r.twist, .int .i64 r.up] 38)).heap.size = w.heap.size + 1 + 1 := by simp
 rw [hs1, hs2] at HD0
 clear hz1 hs1 hs2
 generalize hfb : w.heap.size = fb at *
 generalize hfr : fb + 1 = fr at *
 generalize hfz : fr + 1 = fz at *
 have hwf : w.heap.size ≤ fb ∧ fb < fr ∧ fr < fz := by omega
 have HWF := hH hwf
 clear hfb hfr hfz hwf
 refine (kit_items_any A n cc r.kinds r.fill _ HI0.out HW1.out HW2.out).mono ?_
 rintro en w2 ⟨s, t, rfl, hfc, hO⟩
 have hsz1 := (HD0.out.boxi 0 rfl).lt
 have HSZ := hH hsz1
 have HFC := hH hfc
 have HD7 := hH (HD0.out.keep0 hO).drew
 have HOR := hH ((Only.refl [fz] w2).drew)
 have HX0 := hH hO.size
 clear hfc hO HD0 HI0 hsz1
 obtain ⟨s1, s2, s3⟩ := s
 obtain ⟨t1, t2, t3⟩ := t
 simp only [slv]
 have hx1 := IntWalk.i64_in (r.up + 3) (by omega)
 have hx2 := IntWalk.i64_in (p.m + (r.up + 3) % 7) (by omega)
 have hx3 := IntWalk.i64_in (p.m + (r.up + 3) % 7 - 3) (by omega)
 have hx4 := IntWalk.i64_in (r.skew + 2) (by omega)
 have hx5 := IntWalk.i64_in (p.l + (r.skew + 2) % 5) (by omega)
 have hx6 := IntWalk.i64_in (p.l + (r.skew + 2) % 5 - 2) (by omega)
 have hx7 := IntWalk.i64_in (p.p + r.twist % 3) (by omega)
 have HT1 := hH (wf_small (z := r.up + 3) (by omega) (by omega))
 have HT2 := hH (wf_small (z := r.skew + 2) (by omega) (by omega))
 have HT3 := hH htw
 have HT4 := hH (wf_small (z := p.p + r.twist % 3) (by omega) (by omega))
 obtain ⟨K1, hk1⟩ : ∃ z, (r.up + 3) % 7 = z := ⟨_, rfl⟩
 obtain ⟨K2, hk2⟩ : ∃ z, (r.skew + 2) % 5 = z := ⟨_, rfl⟩
 obtain ⟨K3, hk3⟩ : ∃ z, r.twist % 3 = z := ⟨_, rfl⟩
 rw [hk1] at hx2 hx3 HE
 rw [hk2] at hx5 hx6 HE
 rw [hk3] at hx7 HT4 HE
 have HK1 := hH hk1
 have HK2 := hH hk2
 have HK3 := hH hk3
 clear hk1 hk2 hk3 htw
 obtain ⟨K4, hk4⟩ : ∃ z, (p.p + K3) % 4294967296 = z := ⟨_, rfl⟩
 rw [hk4] at HE
 have HK4 := hH hk4
 clear hk4
 go_wp2_with fail
 refine wp_region_held_drew (S := fun w' => Kn.Own w' fb [.int .i64 p.s, .int .i64 p.o, .int .i64 p.l, .int .i64 p.p, .int .i64 p.m] ∧ Kn.Own w' fr [.slice A n cc, .int .i64 r.fill, .int .i64 r.skew, .int .i64 r.twist, .int .i64 r.up]) (by kernel_rfl) ⟨HD7.out.boxi 2 rfl, HD7.out.boxi 1 rfl⟩ (fun hSw0 => ?_)
 generalize w2.drew = ws at *
 refine tS 0 16 ?_
 refine tS 1 17 (v := (.int .i64 p.m)) (hy := fun w hSw => by
  have q0 := hSw.1.cell 4 (by simp)
  simp only [g0, gs] at q0
  go_simp) ?_
 refine tS 2 18 ?_
 refine tS 3 19 (v := (.int .i64 r.up)) (hy := fun w hSw => by
  have q0 := hSw.2.cell 4 (by simp)
  simp only [g0, gs] at q0
  go_simp) ?_
 refine tS 4 20 ?_
 refine tR 5 21 fun K hK => ?_
 go_simp
 refine (mod_any (r.up + 3) 7 _ HT1.out (by decide) (by decide)).mono ?_
 rintro en wx ⟨rfl, rfl⟩
 rw [HK1.out]
 refine hK.out _ _ hSw0 (fun hSn => ?_)
 clear hK K hSn
 refine tS 6 22 ?_
 refine tS 7 23 ?_
 refine tS 8 7 ?_
 refine tD ?_ _
 have HD8 := hH HD7.out.drew
 have HOR2 := hH HOR.out.drew
 clear HD7 HOR hSw0
 go_wp2_with fail
 refine wp_region_held_drew (S := fun w' => Kn.Own w' fb [.int .i64 p.s, .int .i64 p.o, .int .i64 p.l, .int .i64 p.p, .int .i64 p.m] ∧ Kn.Own w' fr [.slice A n cc, .int .i64 r.fill, .int .i64 r.skew, .int .i64 r.twist, .int .i64 r.up]) (by kernel_rfl) ⟨HD8.out.boxi 2 rfl, HD8.out.boxi 1 rfl⟩ (fun hSw0 => ?_)
 generalize ws.drew = wt at *
 refine tS 0 24 ?_
 refine tS 1 25 (v := (.int .i64 (max (p.m + K1 - 3) 1))) (hy := fun w hSw => by
  exact exec_max rfl rfl rfl) ?_
 refine tS 2 26 ?_
 refine tS 3 27 (v := (.int .i64 p.l)) (hy := fun w hSw => by
  have q0 := hSw.1.cell 2 (by simp)
  simp only [g0, gs] at q0
  go_simp) ?_
 refine tS 4 28 ?_
 refine tS 5 29 (v := (.int .i64 r.skew)) (hy := fun w hSw => by
  have q0 := hSw.2.cell 2 (by simp)
  simp only [g0, gs] at q0
  go_simp) ?_
 refine tS 6 30 ?_
 refine tS 11 35 ?_
 refine tS 12 36 (v := (.int .i64 p.p)) (hy := fun w hSw => by
  have q0 := hSw.1.cell 3 (by simp)
  simp only [g0, gs] at q0
  go_simp) ?_
 refine tS 13 37 ?_
 refine tS 14 38 (v := (.int .i64 r.twist)) (hy := fun w hSw => by
  have q0 := hSw.2.cell 3 (by simp)
  simp only [g0, gs] at q0
  go_simp) ?_
 refine tS 18 42 ?_
 refine tS 19 43 ?_
 refine tR 7 31 fun K hK => ?_
 go_simp
 refine (mod_any (r.skew + 2) 5 _ HT2.out (by decide) (by decide)).mono ?_
 rintro en wx ⟨rfl, rfl⟩
 rw [HK2.out]
 refine hK.out _ _ hSw0 (fun hSn => ?_)
 clear hK K hSn
 refine tS 8 32 ?_
 refine tS 9 33 ?_
 refine tS 10 34 (v := (.int .i64 (max (p.l + K2 - 2) 1))) (hy := fun w hSw => by
  exact exec_max rfl rfl rfl) ?_
 refine tR 15 39 fun K hK => ?_
 go_simp
 refine (mod_any r.twist 3 _ HT3.out (by decide) (by decide)).mono ?_
 rintro en wx ⟨rfl, rfl⟩
 rw [HK3.out]
 refine hK.out _ _ hSw0 (fun hSn => ?_)
 clear hK K hSn
 refine tS 16 40 ?_
 refine tR 17 41 fun K hK => ?_
 go_simp
 refine (mod_any (p.p + K3) 4294967296 _ HT4.out (by decide) (by decide)).mono ?_
 rintro en wx ⟨rfl, rfl⟩
 rw [HK4.out]
 refine hK.out _ _ hSw0 (fun hSn => ?_)
 clear hK K hSn
 refine tS 20 44 ?_
 refine Kn.takeR 21 ⟨none, _, _, _, _, _⟩ fun K hK => ?_
 refine step_store_own rfl 56 (.tmp 4) (.tmp 44) rfl fz [.int .i64 0, .int .i64 0, .int .i64 0, .slice none 0 0, .slice none 0 0] [.int .i64 (max (p.m + K1 - 3) 1), .int .i64 (max (p.l + K2 - 2) 1), .int .i64 K4, .slice s1 s2 s3, .slice t1 t2 t3] (by kernel_rfl) rfl rfl (HD8.out.boxi 0 rfl) rfl (by intro u hu; simp at hu; rcases hu with rfl | rfl | rfl | rfl | rfl <;> rfl) ?_
 intro w9 ho9 hO9
 have HD9 := hH (HD8.out.call1 0 rfl ho9 hO9)
 have HO9 := hH (HOR2.out.trans' hO9)
 clear ho9 hO9 HD8
 refine hK.out _ _ ⟨HD9.out.boxi 2 rfl, HD9.out.boxi 1 rfl⟩ (fun hSn => ?_)
 clear hK K hSw0 hSn
 refine tD ?_ _
 have hfz := HD9.out.boxi 0 rfl
 obtain ⟨z0, z1, z2, z3, z4⟩ := Kn.own5 hfz
 clear hfz
 go_wp2
 (try simp only [Exit.inBlock, Exit.then])
 refine bodyPost_ret (v := .agg #[.int .i64 (max (p.m + K1 - 3) 1), .int .i64 (max (p.l + K2 - 2) 1), .int .i64 K4, .slice s1 s2 s3, .slice t1 t2 t3]) ?_ rfl ?_
 ·simp only [results, HRES.out]
  go_simp
 rw [HE.out]
 refine ⟨(s1, s2, s3), (t1, t2, t3), rfl, fun W hW => HFC.out W (fun k o hk ho hc => hW k o (by have := HWF.out; have := HSZ.out; omega) ((HO9.out.block k (lt_of_obj ho) (by have := HSZ.out; simp; omega)).trans ho) hc), HD9.out.only⟩
end Go.Proofs.YtgcfdjcpcclcjaaGreat
namespace Go.Kn
open Go Go.RowKit
instance : DecidableEq Rc := fun a b => by
 rcases a with ⟨a1, a2, a3, a4, a5⟩
 rcases b with ⟨b1, b2, b3, b4, b5⟩
 rw [Rc.mk.injEq]
 exact inferInstance
theorem take2_iff {b : List UInt8} (h : b.length = 64) (x y : UInt8) : b.take 2 = [x, y] ↔ b[0]? = some x ∧ b[1]? = some y := by
 rcases b with _ | ⟨p, _ | ⟨q, r⟩⟩
 ·simp at h
 ·simp at h
 simp
theorem num_at {b : List UInt8} {i : Nat} (h : i < b.length) : num ((b.drop i).take 1) = b[i].toNat := by
 rw [List.drop_eq_getElem_cons h, List.take_succ_cons, List.take_zero]
 simp [num]
end Go.Kn
namespace Go.Proofs.YtgcfdjcpcclcjaaGreat
open Go Go.RowKit Go.Kn
theorem ref_rec_may_no (m n p : Int) (A : Option Addr) (na ca : Nat) (B : Option Addr) (nb cb : Nat) (w : World) (ha : na ≤ ca) (hb : ca ≤ maxLen)
    (h : (decide (1 ≤ m ∧ m ≤ 2147483647) && (decide (1 ≤ n ∧ n ≤ 2147483647) && (decide (0 ≤ p ∧ p ≤ 4294967295) && decide (1 ≤ (na : Int) ∧ (na : Int) ≤ 6)))) = false) :
    Calls Tryz.prog 86 #[.agg #[.int .i64 m, .int .i64 n, .int .i64 p, .slice A na ca, .slice B nb cb]] w fun e w' => e = .returned (.bool false) ∧ Only [] w w' := by
  unfold maxLen at hb
  obtain ⟨b1, h1⟩ : ∃ b, decide (1 ≤ m ∧ m ≤ 2147483647) = b := ⟨_, rfl⟩
  obtain ⟨b2, h2⟩ : ∃ b, decide (1 ≤ n ∧ n ≤ 2147483647) = b := ⟨_, rfl⟩
  obtain ⟨b3, h3⟩ : ∃ b, decide (0 ≤ p ∧ p ≤ 4294967295) = b := ⟨_, rfl⟩
  obtain ⟨b4, h4⟩ : ∃ b, decide (1 ≤ (na : Int) ∧ (na : Int) ≤ 6) = b := ⟨_, rfl⟩
  rw [h1, h2, h3, h4] at h
  have H1 := hH h1
  have H2 := hH h2
  have H3 := hH h3
  have H4 := hH h4
  clear h1 h2 h3 h4
  cases b1 <;> cases b2 <;> cases b3 <;> cases b4 <;> first
    | (exact absurd h (by decide))
    | (clear h
       go_enter Tryz.func86, Tryz.ntmps86
       go_wp2_with (first | (go_at_call 99; refine (within_any _ _ _ _).mono ?_; rintro e w' ⟨rfl, rfl⟩; first | rw [H1.out] | rw [H2.out] | rw [H3.out] | rw [H4.out]))
       go_ret
       exact ⟨rfl, (Only.refl _ _).alloc _⟩)
theorem ref_rec_may_yes (m n p : Int) (A : Option Addr) (na ca : Nat) (its : List It) (B : Option Addr) (nb cb : Nat) (bl : List (List UInt8)) (w : World) (hi : Its w A na ca its) (hj : Blks w B nb cb bl)
  (h : rcHeadMay ⟨m, n, p, its, bl⟩ = true) :
  Calls Tryz.prog 86 #[.agg #[.int .i64 m, .int .i64 n, .int .i64 p, .slice A na ca, .slice B nb cb]] w fun e w' => e = .returned (.bool (rcMay ⟨m, n, p, its, bl⟩)) ∧ Only [] w w' := by
 have hlen := hi.len
 have hcm := hi.cm
 have hcl := hi.le
 have hln := hj.len
 have hdm := hj.cm
 have hdl := hj.le
 unfold maxLen at hcm hdm
 have h' := h
 unfold rcHeadMay at h'
 simp only [Bool.and_eq_true, decide_eq_true_eq] at h'
 have h1 : decide (1 ≤ m ∧ m ≤ 2147483647) = true := by simp; omega
 have h2 : decide (1 ≤ n ∧ n ≤ 2147483647) = true := by simp; omega
 have h3 : decide (0 ≤ p ∧ p ≤ 4294967295) = true := by simp; omega
 have h4 : decide (1 ≤ (na : Int) ∧ (na : Int) ≤ 6) = true := by simp; omega
 have hna : na ≤ 6 := by omega
 have HX := hH (And.intro h1 (And.intro h2 (And.intro h3 h4)))
 have HI := hH hi
 have HJ := hH hj
 have HL := hH hlen
 have HLB := hH hln
 have HH := hH h
 clear h1 h2 h3 h4 h' h hi hj hlen hln
 go_enter Tryz.func86, Tryz.ntmps86
 go_upto_region 3 with (first | (go_at_call 99; refine (within_any _ _ _ _).mono ?_; rintro e w' ⟨rfl, rfl⟩; first | rw [HX.out.1] | rw [HX.out.2.1] | rw [HX.out.2.2.1] | rw [HX.out.2.2.2]))
 have hO0 := (Only.refl [] w).alloc (.cells #[.int .i64 m, .int .i64 n, .int .i64 p, .slice A na ca, .slice B nb cb] 56)
 have hbx := Own.new w #[.int .i64 m, .int .i64 n, .int .i64 p, .slice A na ca, .slice B nb cb] 56
 have x3 := hbx.cell 3 (by simp)
 have x4 := hbx.cell 4 (by simp)
 simp only [g0, gs] at x3 x4
 generalize w.alloc (.cells #[.int .i64 m, .int .i64 n, .int .i64 p, .slice A na ca, .slice B nb cb] 56) = w1 at *
 have HO := hH hO0
 have X3 := hH x3
 have X4 := hH x4
 clear hO0 hbx x3 x4
 go_wp2_with fail
 go_loopg [3, 4] na (fun r ld i wr => ∃ j : Nat, j + r = na ∧ ld = .int .i64 (loads (its.take j) : Nat) ∧ i = .int .i64 j ∧ Only [] w1 wr ∧ (its.take j).all It.may = true)
 case atStart => exact ⟨0, by omega, by simp [loads], rfl, Only.refl _ _, by simp⟩
 obtain ⟨j, hj, rfl, rfl, hO, hal⟩ := hrel
 have HO1 := hH hO
 have HAL := hH hal
 have hld := loads_le (its.take j)
 rw [List.length_take] at hld
 have x3 := hO.cell X3.out (by simp)
 clear hO hal
 by_cases hlt : j < na
 ·have hjz : j < its.length := by rw [HL.out]; exact hlt
  obtain ⟨a, o, rfl, hc⟩ := HI.out.at_ (by omega)
  obtain ⟨q0, q1, q2, q3⟩ := hc j hjz
  have c0 := HO1.out.cell (HO.out.cell q0 (by simp)) (by simp)
  have c1 := HO1.out.cell (HO.out.cell q1 (by simp)) (by simp)
  have c2 := HO1.out.cell (HO.out.cell q2 (by simp)) (by simp)
  have c3 := HO1.out.cell (HO.out.cell q3 (by simp)) (by simp)
  have HIT : Hid (its[j] = ⟨its[j].k, its[j].b, its[j].c, its[j].v⟩) := hH rfl
  have HLT := hH (loads_take hjz)
  have hlt2 : (j : Int) < (na : Int) := by omega
  have hge : 0 ≤ (j : Int) := by omega
  have htn : ((j : Int)).toNat = j := by omega
  clear hc q0 q1 q2 q3
  cases hm : its[j].may
  ·have HM := hH hm
   clear hm
   generalize hik : its[j].k = ik at *
   generalize hib : its[j].b = ib at *
   generalize hic : its[j].c = ic at *
   generalize hiv : its[j].v = iv at *
   have HME : Hid (It.may ⟨ik, ib, ic, iv⟩ = false) := hH (by rw [← HIT.out]; exact HM.out)
   clear hik hib hic hiv
   go_wp2_with fail
   refine (ref_item_may_any ik ib ic iv _).mono ?_
   rintro e w2 ⟨rfl, hO2⟩
   rw [HME.out]
   go_wp2
   go_ret
   exact ⟨by rw [rcMay_its (r := ⟨m, n, p, its, bl⟩) hjz HM.out]; rfl, (HO.out.trans' HO1.out).trans' hO2⟩
  have HM := hH hm
  clear hm
  obtain ⟨q, hq⟩ : ∃ q, its[j].loaded = q := ⟨_, rfl⟩
  have HQ := hH hq
  clear hq
  generalize hik : its[j].k = ik at *
  generalize hib : its[j].b = ib at *
  generalize hic : its[j].c = ic at *
  generalize hiv : its[j].v = iv at *
  have HME : Hid (It.may ⟨ik, ib, ic, iv⟩ = true) := hH (by rw [← HIT.out]; exact HM.out)
  have HQE : Hid (It.loaded ⟨ik, ib, ic, iv⟩ = q) := hH (by rw [← HIT.out]; exact HQ.out)
  clear hik hib hic hiv
  go_wp2_with fail
  refine (ref_item_may_any ik ib ic iv _).mono ?_
  rintro e w2 ⟨rfl, hO2⟩
  rw [HME.out]
  have d0 := hO2.cell c0 (by simp)
  have d1 := hO2.cell c1 (by simp)
  have d2 := hO2.cell c2 (by simp)
  have d3 := hO2.cell c3 (by simp)
  have y3 := hO2.cell x3 (by simp)
  have HO2 := hH (HO1.out.trans' hO2)
  clear hO2 c0 c1 c2 c3 x3
  generalize hlv : loads (its.take j) = lv at *
  have hl9 : lv ≤ 6 := by omega
  cases q
  ·go_wp2_with fail
   refine (ref_item_loaded_any ik ib ic iv _).mono ?_
   rintro e w3 ⟨rfl, hO3⟩
   rw [HQE.out]
   have HO3 := hH (HO2.out.trans' hO3)
   clear hO3 d0 d1 d2 d3 y3
   go_wp2
   go_roundg (gk - 1)
   case measure => omega
   case rel => exact ⟨j + 1, by omega, by rw [HLT.out, HQ.out]; rfl, by go_num, HO3.out, all_take hjz HAL.out HM.out⟩
  go_wp2_with fail
  refine (ref_item_loaded_any ik ib ic iv _).mono ?_
  rintro e w3 ⟨rfl, hO3⟩
  rw [HQE.out]
  have HO3 := hH (HO2.out.trans' hO3)
  clear hO3 d0 d1 d2 d3 y3
  go_wp2
  go_roundg (gk - 1)
  case measure => omega
  case rel => exact ⟨j + 1, by omega, by rw [HLT.out, HQ.out, if_pos rfl]; go_num, by go_num, HO3.out, all_take hjz HAL.out HM.out⟩
 obtain rfl : j = na := by omega
 have hfull : its.take j = its := List.take_of_length_le (by rw [HL.out]; omega)
 have hal := HAL.out
 rw [hfull] at hal hld ⊢
 have HAL' := hH hal
 have HY := hH (rcMay_yes (r := ⟨m, n, p, its, bl⟩) HH.out HAL'.out)
 have x4 := HO1.out.cell X4.out (by simp)
 have hlb := HLB.out
 generalize hlv : loads its = lv at *
 have hl9 : lv ≤ 6 := by omega
 have hd : decide (bl.length = lv) = decide (nb = lv) := by rw [hlb]
 have HD := hH hd
 clear hal hfull hlv hd hlb
 by_cases hnl : nb = lv
 ·have hn1 : ((lv : Int) != (nb : Int)) = false := by simp; omega
  subst hnl
  have HOA := hH (HO.out.trans' HO1.out)
  clear hn1
  go_wp2_with fail
  generalize hwq : wr = wq at *
  clear hwq
  go_loopg [5] nb (fun r i wr => ∃ t : Nat, t + r = nb ∧ i = .int .i64 t ∧ wq = wr ∧ full64 (bl.take t) = true)
  case atStart => exact ⟨0, by omega, rfl, rfl, by simp [full64]⟩
  obtain ⟨t, ht, rfl, rfl, hal⟩ := hrel
  have HFT := hH hal
  clear hal
  by_cases hlt2 : t < nb
  ·have hjz : t < bl.length := by rw [HLB.out]; exact hlt2
   obtain ⟨a, o, B', m', d', rfl, c0, hb⟩ := ((HJ.out.keep0 HO.out).keep0 HO1.out).at_ t hlt2
   have hbl := hb.len
   have hbm := hb.le
   have hbd := hb.cm
   rw [bvs_length] at hbl
   unfold maxLen at hbd
   have hlt3 : (t : Int) < (nb : Int) := by omega
   have hge : 0 ≤ (t : Int) := by omega
   have htn : ((t : Int)).toNat = t := by omega
   cases hm : is64 bl[t]
   ·have HM := hH hm
    have h64 : ((m' : Int) != 64) = true := by unfold is64 at hm; simp at hm ⊢; omega
    clear hm hb hbl
    go_wp2
    go_ret
    exact ⟨by rw [HY.out, full_no hjz HM.out, Bool.and_false]; rfl, HOA.out⟩
   have HM := hH hm
   have h64 : ((m' : Int) != 64) = false := by unfold is64 at hm; simp at hm ⊢; omega
   clear hm hb hbl
   go_wp2
   go_roundg (gk - 1)
   case measure => omega
   case rel => exact ⟨t + 1, by omega, by go_num, rfl, full_take hjz HFT.out HM.out⟩
  obtain rfl : t = nb := by omega
  have hfull : bl.take t = bl := List.take_of_length_le (by rw [HLB.out]; omega)
  have hal := HFT.out
  rw [hfull] at hal
  have HF := hH hal
  clear hal hfull
  go_wp2
  go_ret
  exact ⟨by rw [HY.out, HD.out, HF.out]; simp, HOA.out⟩
 have hn1 : ((lv : Int) != (nb : Int)) = true := by simp; omega
 have HNL := hH hnl
 clear hnl
 go_wp2_with fail
 go_ret
 refine ⟨?_, HO.out.trans' HO1.out⟩
 rw [HY.out, HD.out, decide_eq_false HNL.out]
 simp
theorem ref_rec_may_any (m n p : Int) (A : Option Addr) (na ca : Nat) (its : List It) (B : Option Addr) (nb cb : Nat) (bl : List (List UInt8)) (w : World) (hi : Its w A na ca its) (hj : Blks w B nb cb bl) :
  Calls Tryz.prog 86 #[.agg #[.int .i64 m, .int .i64 n, .int .i64 p, .slice A na ca, .slice B nb cb]] w fun e w' => e = .returned (.bool (rcMay ⟨m, n, p, its, bl⟩)) ∧ Only [] w w' := by
 cases h : rcHeadMay ⟨m, n, p, its, bl⟩ with
 | true => exact ref_rec_may_yes m n p A na ca its B nb cb bl w hi hj h
 | false =>
  rw [rcMay_head h]
  refine ref_rec_may_no m n p A na ca B nb cb w hi.le hi.cm ?_
  have hl := hi.len
  have e : decide (1 ≤ its.length ∧ its.length ≤ 6) = decide (1 ≤ (na : Int) ∧ (na : Int) ≤ 6) := by rw [hl]; congr 1; simp only [eq_iff_iff]; omega
  rw [← e]
  exact h
theorem ref_rec_size_any (A : Option Addr) (n c : Nat) (b : List UInt8) (w : World) (hi : Bys w A n c b) :
  Calls Tryz.prog 159 #[.slice A n c] w fun e w' => e = .returned (.int .i64 (sizeRc b : Nat)) ∧ Only [] w w' := by
 have hlen := hi.len
 rw [bvs_length] at hlen
 have HI := hH hi
 have HL := hH hlen
 clear hi
 by_cases hs : b.length = 64 ∧ b[0]? = some 75 ∧ b[1]? = some 82
 ·have hds : decide (b.length = 64 ∧ b[0]? = some 75 ∧ b[1]? = some 82) = true := decide_eq_true hs
  have HDS := hH hds
  obtain ⟨h64, hm⟩ := hs
  have hm2 : b.take 2 = [75, 82] := (take2_iff h64 75 82).2 hm
  obtain ⟨ga, oa, rfl, hc⟩ := HI.out.at_ (by omega)
  have c14 := hc 14 (by rw [bvs_length]; omega)
  have c15 := hc 15 (by rw [bvs_length]; omega)
  rw [bvs_get] at c14 c15
  have e14 : rcN b = (b[14]'(by omega)).toNat := num_at (by omega)
  have e15 : rcK b = (b[15]'(by omega)).toNat := num_at (by omega)
  rw [← e14] at c14
  rw [← e15] at c15
  have hb1 : rcN b ≤ 255 := by rw [e14]; have := (b[14]'(by omega)).toNat_lt; omega
  have hb2 : rcK b ≤ 255 := by rw [e15]; have := (b[15]'(by omega)).toNat_lt; omega
  have hn64 : n = 64 := by omega
  have hsz : sizeRc b = if (decide (1 ≤ (rcN b : Int) ∧ (rcN b : Int) ≤ 6) && decide (rcK b ≤ rcN b)) = true then 1 + rcK b else 0 := by
   unfold sizeRc rcHd
   rw [decide_eq_true hm2, Bool.true_and]
   have e1 : decide (1 ≤ rcN b ∧ rcN b ≤ 6) = decide (1 ≤ (rcN b : Int) ∧ (rcN b : Int) ≤ 6) := by congr 1; simp only [eq_iff_iff]; omega
   rw [e1]
   simp only [h64, true_and]
  have HSZ := hH hsz
  clear hds h64 hm hm2 hc e14 e15 hsz hlen
  generalize rcN b = N at *
  generalize rcK b = K at *
  subst hn64
  obtain ⟨q, hq⟩ : ∃ q, decide (1 ≤ (N : Int) ∧ (N : Int) ≤ 6) = q := ⟨_, rfl⟩
  have HQ := hH hq
  clear hq
  go_enter Tryz.func159, Tryz.ntmps159
  go_wp2_with fail
  refine (ref_starts_any _ _ _ b 64 75 82 64 75 82 _ HI.out rfl rfl rfl (by decide)).mono ?_
  rintro e w1 ⟨rfl, rfl⟩
  rw [HDS.out]
  go_wp2_with fail
  refine (within_any _ _ _ _).mono ?_
  rintro e w1 ⟨rfl, rfl⟩
  rw [HQ.out]
  cases q
  ·go_wp2
   go_ret
   exact ⟨by rw [HSZ.out, HQ.out]; rfl, Only.refl _ _⟩
  by_cases hk : K ≤ N
  ·have hk2 : decide (N < K) = false := decide_eq_false (by omega)
   have HK := hH hk
   clear hk
   go_wp2
   go_ret
   refine ⟨?_, Only.refl _ _⟩
   rw [HSZ.out, HQ.out, decide_eq_true HK.out, if_pos (by rfl)]
   go_num
  have hk2 : decide (N < K) = true := decide_eq_true (by omega)
  have HK := hH hk
  clear hk
  go_wp2
  go_ret
  refine ⟨?_, Only.refl _ _⟩
  rw [HSZ.out, HQ.out, decide_eq_false HK.out]
  rfl
 have hds : decide (b.length = 64 ∧ b[0]? = some 75 ∧ b[1]? = some 82) = false := decide_eq_false hs
 have HDS := hH hds
 have hsz : sizeRc b = 0 := by
  unfold sizeRc rcHd
  rw [if_neg]
  rintro ⟨h1, h2⟩
  simp only [Bool.and_eq_true, decide_eq_true_eq] at h2
  exact hs ⟨h1, (take2_iff h1 75 82).1 h2.1⟩
 have HSZ := hH hsz
 clear hs hds hsz hlen
 go_enter Tryz.func159, Tryz.ntmps159
 go_wp2_with fail
 refine (ref_starts_any _ _ _ b 64 75 82 64 75 82 _ HI.out rfl rfl rfl (by decide)).mono ?_
 rintro e w1 ⟨rfl, rfl⟩
 rw [HDS.out]
 go_wp2
 go_ret
 exact ⟨by rw [HSZ.out]; rfl, Only.refl _ _⟩
theorem alike_blocks_any (A : Option Addr) (n c : Nat) (xs : List (List UInt8)) (B : Option Addr) (m d : Nat) (ys : List (List UInt8)) (w : World) (hx : Blks w A n c xs) (hy : Blks w B m d ys) :
  Calls Tryz.prog 71 #[.slice A n c, .slice B m d] w fun e w' => e = .returned (.bool (decide (xs = ys))) ∧ ∃ k, w' = w.drewN k := by
 have hlx := hx.len
 have hly := hy.len
 have hcm := hx.cm
 have hcl := hx.le
 have hdm := hy.cm
 have hdl := hy.le
 unfold maxLen at hcm hdm
 have HX := hH hx
 have HY := hH hy
 have HLX := hH hlx
 have HLY := hH hly
 clear hx hy hlx hly
 by_cases hnm : n = m
 ·subst hnm
  go_enter Tryz.func71, Tryz.ntmps71
  go_wp2_with fail
  go_loopg [5] n (fun r i wr => ∃ j : Nat, j + r = n ∧ i = .int .i64 j ∧ (∃ k, wr = w.drewN k) ∧ xs.take j = ys.take j)
  case atStart => exact ⟨0, by omega, rfl, ⟨0, rfl⟩, by simp⟩
  obtain ⟨j, hj, rfl, ⟨k, hwk⟩, htk⟩ := hrel
  have HWK := hH hwk
  have HT := hH htk
  clear htk
  by_cases hlt : j < n
  ·have hjx : j < xs.length := by rw [HLX.out]; exact hlt
   have hjy : j < ys.length := by rw [HLY.out]; exact hlt
   obtain ⟨ga, oa, Ax, nx, cx, rfl, p0', hbx⟩ := HX.out.at_ j hlt
   obtain ⟨gb, ob, Ay, ny, cy, rfl, q0', hby⟩ := HY.out.at_ j hlt
   have p0 : wr.cell? ⟨ga, oa + j, none⟩ = some (.slice Ax nx cx) := by rw [hwk]; exact p0'
   have q0 : wr.cell? ⟨gb, ob + j, none⟩ = some (.slice Ay ny cy) := by rw [hwk]; exact q0'
   have HBX := hH hbx
   have HBY := hH hby
   have hlt2 : (j : Int) < (n : Int) := by omega
   have hge : 0 ≤ (j : Int) := by omega
   have htn : ((j : Int)).toNat = j := by omega
   clear hbx hby p0' q0' hwk
   generalize hgx : xs[j] = x at *
   generalize hgy : ys[j] = y at *
   have HGX := hH hgx
   have HGY := hH hgy
   clear hgx hgy
   obtain ⟨q, hq⟩ : ∃ q, decide (x = y) = q := ⟨_, rfl⟩
   have HQ := hH hq
   have HC : Hid (∀ V, (∃ m, V = w.drewN m) → Calls Tryz.prog 48 #[.slice Ax nx cx, .slice Ay ny cy] V fun e w' => e = .returned (.bool q) ∧ ∃ k, w' = V.drewN k) := hH (fun V hV => by
    obtain ⟨m, rfl⟩ := hV
    have := alike_bytes_any Ax nx cx x Ay ny cy y (w.drewN m) (HBX.out.drewN m) (HBY.out.drewN m)
    rw [hq] at this
    exact this)
   clear hq
   go_wp2_with fail
   go_quiet ((go_at_call 48; exact Calls.quiet_of (HC.out _ ⟨_, by rw [HWK.out, World.drewN_drewN]⟩)))
   cases q
   ·go_wp2
    go_ret
    have hd : xs ≠ ys := by
     intro h
     subst h
     have h1 := HGX.out
     rw [HGY.out] at h1
     subst h1
     have := HQ.out
     simp at this
    exact ⟨by simp [hd], k + nq, by rw [HWK.out, World.drewN_drewN]⟩
   go_wp2
   go_roundg (gk - 1)
   case measure => omega
   refine ⟨j + 1, by omega, by go_num, ⟨k + nq, by rw [HWK.out, World.drewN_drewN]⟩, ?_⟩
   have h1 := of_decide_eq_true HQ.out
   rw [List.take_succ_eq_append_getElem hjx, List.take_succ_eq_append_getElem hjy, HT.out, HGX.out, HGY.out, h1]
  obtain rfl : j = n := by omega
  clear hwk
  go_wp2
  go_ret
  have : xs = ys := by
   have := HT.out
   rwa [List.take_of_length_le (by rw [HLX.out]; omega), List.take_of_length_le (by rw [HLY.out]; omega)] at this
  exact ⟨by simp [this], k, HWK.out⟩
 have hd : xs ≠ ys := fun h => hnm (by subst h; have := HLX.out; have := HLY.out; omega)
 have hne : ((n : Int) != (m : Int)) = true := by rw [bne_iff_ne]; omega
 go_enter Tryz.func71, Tryz.ntmps71
 go_wp2
 go_ret
 exact ⟨by simp [hd], 0, rfl⟩
theorem alike_record_any (m1 n1 p1 : Int) (A : Option Addr) (na ca : Nat) (its : List It) (B : Option Addr) (nb cb : Nat) (bl : List (List UInt8)) (m2 n2 p2 : Int) (A' : Option Addr) (na' ca' : Nat) (its' : List It) (B' : Option Addr) (nb' cb' : Nat) (bl' : List (List UInt8)) (w : World) (hi : Its w A na ca its) (hj : Blks w B nb cb bl) (hi' : Its w A' na' ca' its') (hj' : Blks w B' nb' cb' bl') :
  Calls Tryz.prog 61 #[.agg #[.int .i64 m1, .int .i64 n1, .int .i64 p1, .slice A na ca, .slice B nb cb], .agg #[.int .i64 m2, .int .i64 n2, .int .i64 p2, .slice A' na' ca', .slice B' nb' cb']] w
   fun e w' => e = .returned (.bool (decide ((⟨m1, n1, p1, its, bl⟩ : Rc) = ⟨m2, n2, p2, its', bl'⟩))) ∧ Only [] w w' := by
 have HI := hH hi
 have HJ := hH hj
 have HI' := hH hi'
 have HJ' := hH hj'
 clear hi hj hi' hj'
 have hE : decide ((⟨m1, n1, p1, its, bl⟩ : Rc) = ⟨m2, n2, p2, its', bl'⟩) = (m1 == m2 && (n1 == n2 && (p1 == p2 && (decide (its = its') && decide (bl = bl'))))) := by
  rw [Bool.eq_iff_iff]
  simp [Rc.mk.injEq]
 have HE := hH hE
 rw [hE]
 clear hE
 have hO0 := ((Only.refl [] w).alloc (.cells #[.int .i64 m1, .int .i64 n1, .int .i64 p1, .slice A na ca, .slice B nb cb] 56)).alloc (.cells #[.int .i64 m2, .int .i64 n2, .int .i64 p2, .slice A' na' ca', .slice B' nb' cb'] 56)
 have HO0 := hH hO0
 clear hO0
 obtain ⟨q1, h1⟩ : ∃ q, (m1 == m2) = q := ⟨_, rfl⟩
 obtain ⟨q2, h2⟩ : ∃ q, (n1 == n2) = q := ⟨_, rfl⟩
 obtain ⟨q3, h3⟩ : ∃ q, (p1 == p2) = q := ⟨_, rfl⟩
 obtain ⟨q4, h4⟩ : ∃ q, decide (its = its') = q := ⟨_, rfl⟩
 obtain ⟨q5, h5⟩ : ∃ q, decide (bl = bl') = q := ⟨_, rfl⟩
 have H4 := hH h4
 have H5 := hH h5
 rw [h1, h2, h3, h4, h5]
 clear h4 h5 HE
 cases q1
 ·go_enter Tryz.func61, Tryz.ntmps61
  go_wp2
  go_ret
  exact ⟨rfl, HO0.out⟩
 cases q2
 ·go_enter Tryz.func61, Tryz.ntmps61
  go_wp2
  go_ret
  exact ⟨rfl, HO0.out⟩
 cases q3
 ·go_enter Tryz.func61, Tryz.ntmps61
  go_wp2
  go_ret
  exact ⟨rfl, HO0.out⟩
 cases q4
 ·go_enter Tryz.func61, Tryz.ntmps61
  go_wp2_with fail
  refine (alike_items_any A na ca its A' na' ca' its' _ (by exact HI.out.keep0 HO0.out) (by exact HI'.out.keep0 HO0.out)).mono ?_
  rintro e w3 ⟨rfl, k, rfl⟩
  rw [H4.out]
  go_wp2
  go_ret
  exact ⟨rfl, HO0.out.drewN _⟩
 go_enter Tryz.func61, Tryz.ntmps61
 go_wp2_with fail
 refine (alike_items_any A na ca its A' na' ca' its' _ (by exact HI.out.keep0 HO0.out) (by exact HI'.out.keep0 HO0.out)).mono ?_
 rintro e w3 ⟨rfl, k, rfl⟩
 rw [H4.out]
 go_wp2_with fail
 refine (alike_blocks_any B nb cb bl B' nb' cb' bl' _ (by exact (HJ.out.keep0 HO0.out).keep0 ((Only.refl _ _).drewN _)) (by exact (HJ'.out.keep0 HO0.out).keep0 ((Only.refl _ _).drewN _))).mono ?_
 rintro e w4 ⟨rfl, k2, rfl⟩
 rw [H5.out]
 go_wp2
 go_ret
 exact ⟨rfl, HO0.out.os, HO0.out.tape, HO0.out.output, HO0.out.size, HO0.out.block⟩
end Go.Proofs.YtgcfdjcpcclcjaaGreat
namespace Go.Kn
open Go Go.RowKit
theorem csum_more (a b : List UInt8) : 4294967295 - cadd (4294967295 - csum a) b = csum (a ++ b) := by
 have h := cadd_lt (x := 4294967295) (by decide) a
 unfold csum
 rw [show 4294967295 - (4294967295 - cadd 4294967295 a) = cadd 4294967295 a from by omega, cadd_append]
/-- a row of so many sectors, a summary laid but for its sum -/
theorem rc_row_t {r : Rc} (h : r.its.length ≤ 6) (k : Nat) : lay (List.replicate (64 * (1 + k)) 0) 0 (cat (rcFs r) ++ itsB r.its) = rcHead r ++ List.replicate (4 + 64 * k) 0 := by
 unfold rcHead lay
 have hl : (cat (rcFs r) ++ itsB r.its).length = 16 + 7 * r.its.length := by rw [List.length_append, rcFs_len, itsB_length]
 rw [hl, List.take_zero, List.nil_append, List.drop_replicate, List.append_assoc, List.append_assoc, List.append_assoc, List.replicate_append_replicate]
 congr 3
 omega
theorem rc_blocks {h60 : List UInt8} (h : h60.length = 60) (bl : List (List UInt8)) (hf : full64 bl = true) : lay (h60 ++ List.replicate (4 + 64 * bl.length) 0) 64 bl.flatten = h60 ++ (List.replicate 4 0 ++ bl.flatten) := by
 have hl := flat64 hf
 unfold lay
 have e1 : (h60 ++ List.replicate (4 + 64 * bl.length) (0 : UInt8)).take 64 = h60 ++ List.replicate 4 0 := by
  rw [List.take_append, h, List.take_of_length_le (by omega), List.take_replicate]
  congr 2
  omega
 rw [e1, List.drop_of_length_le (by rw [List.length_append, h, List.length_replicate, hl]; omega), List.append_nil, List.append_assoc]
theorem rc_sum_t {r : Rc} (h : r.its.length ≤ 6) (s : Nat) (x : List UInt8) : lay (rcHead r ++ (List.replicate 4 0 ++ x)) 60 (le 4 s) = rcHead r ++ (le 4 s ++ x) := by
 have hl := rcHead_length h
 unfold lay
 have e : rcHead r ++ (List.replicate 4 0 ++ x) = (rcHead r ++ List.replicate 4 0) ++ x := by rw [List.append_assoc]
 rw [List.take_left' hl, le_length, e, List.drop_left' (by rw [List.length_append, hl, List.length_replicate])]
end Go.Kn
namespace Go.Proofs.YtgcfdjcpcclcjaaGreat
open Go Go.RowKit Go.Kn
theorem ref_rec_enc_any (rm rn rp : Int) (A : Option Addr) (na ca : Nat) (its : List It) (B : Option Addr) (nb cb : Nat) (bl : List (List UInt8)) (w : World) (hi : Its w A na ca its) (hj : Blks w B nb cb bl) :
  Calls Tryz.prog 26 #[.agg #[.int .i64 rm, .int .i64 rn, .int .i64 rp, .slice A na ca, .slice B nb cb]] w (EncRc w (encRc ⟨rm, rn, rp, its, bl⟩) 1) := by
 have hlen := hi.len
 have hln := hj.len
 have hdl := hj.le
 have hdm := hj.cm
 have hcl := hi.le
 have hcm := hi.cm
 unfold maxLen at hcm hdm
 have HI := hH hi
 have HJ := hH hj
 have HL := hH hlen
 have HLB := hH hln
 have hO0 := (Only.refl [] w).alloc (.cells #[.int .i64 rm, .int .i64 rn, .int .i64 rp, .slice A na ca, .slice B nb cb] 56)
 have hbx := Own.new w #[.int .i64 rm, .int .i64 rn, .int .i64 rp, .slice A na ca, .slice B nb cb] 56
 obtain ⟨x0, x1, x2, x3, x4⟩ := Kn.own5 hbx
 clear hi hj hlen hln
 cases hm : rcMay ⟨rm, rn, rp, its, bl⟩
 ·have HM := hH hm
  clear hm
  go_enter Tryz.func26, Tryz.ntmps26
  go_upto_region 1 with fail
  generalize w.alloc (.cells #[.int .i64 rm, .int .i64 rn, .int .i64 rp, .slice A na ca, .slice B nb cb] 56) = w0 at *
  have HO0 := hH hO0
  clear hO0 hbx
  go_wp2_with fail
  refine (ref_rec_may_any rm rn rp A na ca its B nb cb bl _ (by exact HI.out.keep0 HO0.out) (by exact HJ.out.keep0 HO0.out)).mono ?_
  rintro e w1 ⟨rfl, hO1⟩
  rw [HM.out]
  have HO1 := hH (HO0.out.trans' hO1)
  clear hO1 x0 x1 x2 x3 x4
  go_wp2
  go_ret3
  exact EncRc.no (by unfold encRc; rw [HM.out]; rfl) HO1.out
 obtain ⟨⟨hm1, hm2, hm3, hm4, hm5⟩, hal, hbn, hbf⟩ := rcMay_iff.1 hm
 have hld := loads_le its
 have hna : na ≤ 6 := by rw [← HL.out]; exact hm5
 have hnb : nb ≤ 6 := by
  have h1 := HLB.out
  simp only at hbn hm5
  omega
 have HF1 : Hid (Fit 4 [rm, rn, rp]) := hH (by simp only [fit_cons, fit_nil, Int.reducePow, and_true] at *; omega)
 have HF2 : Hid (Fit 1 [(na : Int), (nb : Int)]) := hH (by simp only [fit_cons, fit_nil, Int.reducePow, and_true]; omega)
 have HE : Hid (encItems its = some (itsB its)) := hH (by unfold encItems; rw [if_pos ⟨hm5, hal⟩])
 have HM := hH hm
 have HM5 := hH hm5
 have HBF := hH hbf
 obtain ⟨L, hL⟩ : ∃ L, (itsB its).length = L := ⟨_, rfl⟩
 have hL7 : L = 7 * na := by rw [← hL, itsB_length, HL.out]
 have hL42 : L ≤ 42 := by omega
 have HLL := hH hL
 obtain ⟨T, hT⟩ : ∃ T, T = 64 * (1 + nb) := ⟨_, rfl⟩
 have HT := hH hT
 have hT1 : 64 ≤ T := by omega
 have hT2 : T ≤ 448 := by omega
 have hTi : (1 + (nb : Int)) * 64 = (T : Int) := by omega
 have hw0 : IntKind.i64.wrap (1 + (nb : Int)) = 1 + (nb : Int) := IntWalk.i64_in _ (by omega)
 have hw1 : IntKind.i64.wrap ((1 + (nb : Int)) * 64) = (T : Int) := by rw [hTi]; exact IntWalk.i64_in _ (by omega)
 have HTI := hH hTi
 clear hm hal hbn hbf hm1 hm2 hm3 hm4 hm5 hL hL7 hT hTi
 go_enter Tryz.func26, Tryz.ntmps26
 go_upto_region 1 with fail
 generalize hbb : w.heap.size = b at *
 have HSZ : Hid (w.heap.size ≤ b) := hH (by omega)
 have HBB := hH hbb
 generalize w.alloc (.cells #[.int .i64 rm, .int .i64 rn, .int .i64 rp, .slice A na ca, .slice B nb cb] 56) = w0 at *
 have HO0 := hH hO0
 clear hO0 hbb
 go_wp2_with fail
 refine (ref_rec_may_any rm rn rp A na ca its B nb cb bl _ (by exact HI.out.keep0 HO0.out) (by exact HJ.out.keep0 HO0.out)).mono ?_
 rintro e w1 ⟨rfl, hO1⟩
 rw [HM.out]
 have HB1 := hH (hbx.keep0 hO1)
 have HO1 := hH (HO0.out.trans' hO1)
 clear hO1 x0 x1 x2 x3 x4 hbx HO0
 have x4 := HB1.out.cell 4 (by simp)
 simp only [g0, gs] at x4
 go_wp2_with fail
 first | rw [HTI.out] | skip
 refine (ref_begun_any (T : Int) 75 82 75 82 _ rfl rfl (by omega) (by omega)).mono ?_
 rintro e w2 ⟨p, g, rfl, hp, hg, hr, hO⟩
 rw [Int.toNat_natCast] at hr
 have hz : (List.replicate T (0 : UInt8)).length = T := by rw [List.length_replicate]
 have HRW : Hid (lay (List.replicate T (0 : UInt8)) 0 (cat (rcFs ⟨rm, rn, rp, its, bl⟩) ++ itsB its) = rcHead ⟨rm, rn, rp, its, bl⟩ ++ List.replicate (4 + 64 * nb) 0) := hH (by rw [HT.out]; exact rc_row_t (r := ⟨rm, rn, rp, its, bl⟩) HM5.out nb)
 generalize List.replicate T (0 : UInt8) = zr at *
 have HZ := hH hz
 rw [show ([75, 82] : List UInt8) = cat [(1, 75), (1, 82)] from rfl] at hr
 have HS : Hid (Encs w w2 p g 2 b (lay zr 0 (cat [(1, 75), (1, 82)])) [.int .i64 rm, .int .i64 rn, .int .i64 rp, .slice A na ca, .slice B nb cb]) := hH (Encs.start HB1.out HO1.out hp hg hr hO)
 clear hr hO hp hg hz HB1 HO1 x4
 have HX : Hid ((lay zr 0 (cat [(1, 75), (1, 82)])).length = T) := hH (by rw [lay_length _ _ _ (by rw [cat_length, HZ.out]; show (2 : Nat) ≤ T; omega), HZ.out])
 have HLC := hH (lay_cat zr [(1, 75), (1, 82)] 2 4 [rm, rn, rp] rfl (by rw [HZ.out]; show (14 : Nat) ≤ T; omega))
 generalize lay zr 0 (cat [(1, 75), (1, 82)]) = X1 at *
 obtain ⟨x0, x1, x2⟩ := Kn.own3 HS.out.box
 go_wp2_with fail
 refine (ref_put_any p g 2 X1 4 _ 3 3 [rm, rn, rp] _ (by exact HS.out.row.alloc _) (by exact ins_built _ [rm, rn, rp] _ 3 rfl (by omega)) (by exact ne_built HS.out.row) (by decide) (by rw [HX.out]; omega) HF1.out).mono ?_
 rintro e w5 ⟨rfl, hr, hO⟩
 rw [HLC.out] at hr
 have HSn : Hid (Encs w w5 p g 14 b (lay zr 0 (cat ([(1, 75), (1, 82)] ++ [rm, rn, rp].map fun z => (4, z)))) [.int .i64 rm, .int .i64 rn, .int .i64 rp, .slice A na ca, .slice B nb cb]) := hH ((HS.out.alloc _).put hr hO)
 clear hr hO HS HX
 have HS := HSn
 clear HSn
 clear HLC x0 x1 x2
 have HX : Hid ((lay zr 0 (cat ([(1, 75), (1, 82)] ++ [rm, rn, rp].map fun z => (4, z)))).length = T) := hH (by rw [lay_length _ _ _ (by rw [cat_length, HZ.out]; show (14 : Nat) ≤ T; omega), HZ.out])
 have HLC := hH (lay_cat zr ([(1, 75), (1, 82)] ++ [rm, rn, rp].map fun z => (4, z)) 14 1 [(na : Int), (nb : Int)] rfl (by rw [HZ.out]; show (16 : Nat) ≤ T; omega))
 have HFS : Hid (([(1, 75), (1, 82)] ++ [rm, rn, rp].map fun z => (4, z)) ++ [(na : Int), (nb : Int)].map (fun z => (1, z)) = rcFs ⟨rm, rn, rp, its, bl⟩) := hH (by unfold rcFs; rw [HL.out, HLB.out]; rfl)
 generalize lay zr 0 (cat ([(1, 75), (1, 82)] ++ [rm, rn, rp].map fun z => (4, z))) = X2 at *
 have x3 := HS.out.box.cell 3 (by simp)
 have x4 := HS.out.box.cell 4 (by simp)
 simp only [g0, gs] at x3 x4
 go_wp2_with fail
 refine (ref_put_any p g 14 X2 1 _ 2 2 [(na : Int), (nb : Int)] _ (by exact HS.out.row.alloc _) (by exact ins_built _ [(na : Int), (nb : Int)] _ 2 rfl (by omega)) (by exact ne_built HS.out.row) (by decide) (by rw [HX.out]; omega) HF2.out).mono ?_
 rintro e w6 ⟨rfl, hr, hO⟩
 rw [HLC.out, HFS.out] at hr
 have HSn : Hid (Encs w w6 p g 16 b (lay zr 0 (cat (rcFs ⟨rm, rn, rp, its, bl⟩))) [.int .i64 rm, .int .i64 rn, .int .i64 rp, .slice A na ca, .slice B nb cb]) := hH ((HS.out.alloc _).put hr hO)
 clear hr hO HS HX
 have HS := HSn
 clear HSn
 clear HLC HFS x3 x4
 have hcl16 : (cat (rcFs ⟨rm, rn, rp, its, bl⟩)).length = 16 := rcFs_len _
 have HX : Hid ((lay zr 0 (cat (rcFs ⟨rm, rn, rp, its, bl⟩))).length = T) := hH (by rw [lay_length _ _ _ (by rw [hcl16, HZ.out]; omega), HZ.out])
 have HLI : Hid (lay (lay zr 0 (cat (rcFs ⟨rm, rn, rp, its, bl⟩))) 16 (itsB its) = rcHead ⟨rm, rn, rp, its, bl⟩ ++ List.replicate (4 + 64 * nb) 0) := hH (by
  have e := lay_lay zr 0 (cat (rcFs ⟨rm, rn, rp, its, bl⟩)) (itsB its) (by rw [hcl16, HLL.out, HZ.out]; omega)
  rw [hcl16, Nat.zero_add] at e
  rw [e]
  exact HRW.out)
 clear hcl16
 generalize lay zr 0 (cat (rcFs ⟨rm, rn, rp, its, bl⟩)) = X3 at *
 have x3 := HS.out.box.cell 3 (by simp)
 simp only [g0, gs] at x3
 go_wp2_with fail
 refine (ref_item_enc_any A na ca its _ (by exact HI.out.keep0 HS.out.only)).mono ?_
 rintro e w7 ⟨A2, c2, rfl, hb2, hn2, hO⟩
 rw [HE.out] at hb2 hn2 ⊢
 simp only [Option.getD_some, Option.isSome_some, if_true] at hb2 hn2 ⊢
 rw [HLL.out] at hb2 ⊢
 have HIB := hH hb2
 have HSn := hH (HS.out.keep hO)
 clear hb2 hn2 hO HS x3
 have HS := HSn
 clear HSn
 go_wp2_with fail
 refine (ref_lay_any p g 16 X3 A2 L c2 (itsB its) _ (by exact HS.out.row) (by exact HIB.out) (by rw [HX.out]; omega)).mono ?_
 rintro e w8 ⟨rfl, hr, hO⟩
 rw [HLI.out] at hr
 have hl60 := rcHead_length (r := ⟨rm, rn, rp, its, bl⟩) HM5.out
 have hX4 : (rcHead ⟨rm, rn, rp, its, bl⟩ ++ List.replicate (4 + 64 * nb) 0).length = T := by rw [List.length_append, hl60, List.length_replicate, HT.out]; omega
 have hbk : lay (rcHead ⟨rm, rn, rp, its, bl⟩ ++ List.replicate (4 + 64 * nb) 0) 64 bl.flatten = rcHead ⟨rm, rn, rp, its, bl⟩ ++ (List.replicate 4 0 ++ bl.flatten) := by
  have := rc_blocks hl60 bl HBF.out
  rw [HLB.out] at this
  exact this
 have HSn : Hid (Encs w w8 p g (16 + L) b (rcHead ⟨rm, rn, rp, its, bl⟩ ++ List.replicate (4 + 64 * nb) 0) [.int .i64 rm, .int .i64 rn, .int .i64 rp, .slice A na ca, .slice B nb cb]) := hH (HS.out.put hr hO)
 have HX4 := hH hX4
 have HL60 := hH hl60
 have HBK := hH hbk
 have hfl := flat64 HBF.out
 rw [HLB.out] at hfl
 have HFL := hH hfl
 clear hr hO HS HIB HX HLI hX4 hl60 hbk hfl
 have HS := HSn
 clear HSn
 generalize rcHead ⟨rm, rn, rp, its, bl⟩ ++ List.replicate (4 + 64 * nb) 0 = X4 at *
 have hy0 := HS.out.row.fk
 have hy1 := HS.out.row.pz 1
 have hlp := HS.out.row.lp
 go_upto_region 9 with fail
 have HSn : Hid (Encs w (w8.setCell ⟨p, 1, none⟩ (.int .i64 (64 : Nat))) p g 64 b X4 [.int .i64 rm, .int .i64 rn, .int .i64 rp, .slice A na ca, .slice B nb cb]) := hH (HS.out.put (HS.out.row.place 64 (by rw [HX4.out]; omega)) ((Only.refl [p, g] w8).set (by simp) _))
 rw [show ((64 : Nat) : Int) = 64 from rfl] at HSn
 clear HS hy0 hy1 hlp
 have HS := HSn
 clear HSn
 generalize w8.setCell ⟨p, 1, none⟩ (.int .i64 64) = w9 at *
 go_wp2_with fail
 go_loopg [8] nb (fun r i wr => ∃ t : Nat, t + r = nb ∧ i = .int .i64 t ∧ Encs w wr p g (64 + 64 * t) b (lay X4 64 (bl.take t).flatten) [.int .i64 rm, .int .i64 rn, .int .i64 rp, .slice A na ca, .slice B nb cb])
 case atStart => exact ⟨0, by omega, rfl, by simpa [lay_nil] using HS.out⟩
 obtain ⟨t, ht, rfl, hs⟩ := hrel
 have HR := hH hs
 clear hs HS
 by_cases hlt : t < nb
 ·have hjz : t < bl.length := by rw [HLB.out]; exact hlt
  obtain ⟨ga, oa, B', m', d', rfl, q0, hb⟩ := HJ.out.at_ t hlt
  have c0 := HR.out.only.cell q0 (by simp)
  have hbl := hb.len
  rw [bvs_length, full64_get HBF.out t hjz] at hbl
  subst hbl
  have HB := hH (hb.keep0 HR.out.only)
  have hfe : (bl.take t).flatten.length = 64 * t := by
   have := flat64 (full64_take HBF.out t)
   rw [List.length_take, Nat.min_eq_left (by omega)] at this
   exact this
  have hnx : lay (lay X4 64 (bl.take t).flatten) (64 + 64 * t) bl[t] = lay X4 64 (bl.take (t + 1)).flatten := by
   have e := lay_lay X4 64 (bl.take t).flatten bl[t] (by rw [hfe, full64_get HBF.out t hjz, HX4.out, HT.out]; omega)
   rw [hfe] at e
   rw [e, ← flat_take hjz]
  have hxl : (lay X4 64 (bl.take t).flatten).length = T := by rw [lay_length _ _ _ (by rw [hfe, HX4.out, HT.out]; omega), HX4.out]
  have HNX := hH hnx
  have HXL := hH hxl
  have hlt2 : (t : Int) < (nb : Int) := by omega
  have hge : 0 ≤ (t : Int) := by omega
  have htn : ((t : Int)).toNat = t := by omega
  have hroom : 64 ≤ T - (64 + 64 * t) := by have := HT.out; omega
  have x4 := HR.out.box.cell 4 (by simp)
  simp only [g0, gs] at x4
  clear hb q0 hfe hnx hxl
  generalize bl[t] = bt at *
  generalize lay X4 64 (bl.take t).flatten = Xt at *
  generalize hXn : lay X4 64 (bl.take (t + 1)).flatten = Xn at *
  have HXn := hH hXn
  clear hXn
  go_wp2_with fail
  refine (ref_lay_any p g (64 + 64 * t) Xt B' 64 d' bt _ (by exact HR.out.row) (by exact HB.out) (by rw [HXL.out]; exact hroom)).mono ?_
  rintro e wq ⟨rfl, hr, hO⟩
  rw [HNX.out] at hr
  have HR2 : Hid (Encs w wq p g (64 + 64 * (t + 1)) b Xn [.int .i64 rm, .int .i64 rn, .int .i64 rp, .slice A na ca, .slice (some ⟨ga, oa, none⟩) nb cb]) := hH (by
   have := HR.out.put hr hO
   rwa [show 64 + 64 * t + 64 = 64 + 64 * (t + 1) from by omega] at this)
  clear hr hO HR x4 c0
  go_wp2
  go_roundg (gk - 1)
  case measure => omega
  case rel => exact ⟨t + 1, by omega, by go_num, by rw [HXn.out]; exact HR2.out⟩
 obtain rfl : t = nb := by omega
 have htk : bl.take t = bl := List.take_of_length_le (by rw [HLB.out]; omega)
 have hr5 := HR.out
 rw [htk, HBK.out] at hr5
 have HS := hH hr5
 have x4 := HR.out.box.cell 4 (by simp)
 simp only [g0, gs] at x4
 have hX5 : (rcHead ⟨rm, rn, rp, its, bl⟩ ++ (List.replicate 4 0 ++ bl.flatten)).length = T := by rw [List.length_append, HL60.out, List.length_append, List.length_replicate, HFL.out, HT.out]; omega
 have hT5 : (rcHead ⟨rm, rn, rp, its, bl⟩ ++ (List.replicate 4 0 ++ bl.flatten)).take 60 = rcHead ⟨rm, rn, rp, its, bl⟩ := List.take_left' HL60.out
 have hD5 : ((rcHead ⟨rm, rn, rp, its, bl⟩ ++ (List.replicate 4 0 ++ bl.flatten)).drop 64).take (64 * t) = bl.flatten := by
  rw [← List.append_assoc, List.drop_left' (by rw [List.length_append, HL60.out, List.length_replicate]), List.take_of_length_le (by rw [HFL.out]; omega)]
 have hRS := rc_sum_t (r := ⟨rm, rn, rp, its, bl⟩) HM5.out (rcSum ⟨rm, rn, rp, its, bl⟩) bl.flatten
 have hRB : rcHead ⟨rm, rn, rp, its, bl⟩ ++ (le 4 (rcSum ⟨rm, rn, rp, its, bl⟩) ++ bl.flatten) = rcBytes ⟨rm, rn, rp, its, bl⟩ := rfl
 rw [hRB] at hRS
 have hsm : 4294967295 - cadd (4294967295 - csum (rcHead ⟨rm, rn, rp, its, bl⟩)) bl.flatten = rcSum ⟨rm, rn, rp, its, bl⟩ := csum_more _ _
 have hs32 : rcSum ⟨rm, rn, rp, its, bl⟩ < 4294967296 := csum_lt _
 have hrl := rcBytes_length (r := ⟨rm, rn, rp, its, bl⟩) HM.out
 have HENC : Hid (encRc ⟨rm, rn, rp, its, bl⟩ = some (rcBytes ⟨rm, rn, rp, its, bl⟩, rcSum ⟨rm, rn, rp, its, bl⟩)) := hH (enc_rc HM.out)
 generalize rcHead ⟨rm, rn, rp, its, bl⟩ ++ (List.replicate 4 0 ++ bl.flatten) = X5 at *
 generalize rcSum ⟨rm, rn, rp, its, bl⟩ = s at *
 generalize rcBytes ⟨rm, rn, rp, its, bl⟩ = RB at *
 rw [← hT5, ← hD5] at hsm
 have HX5 := hH hX5
 have HSM := hH hsm
 have HRS := hH hRS
 have HRL := hH hrl
 obtain ⟨A0, c0, hf0, hfb, hfA⟩ := row_bys HS.out.row
 rw [HX5.out] at hf0 hfb hfA
 obtain rfl := hfA (by omega)
 have hTc := hfb.le
 have hcM := hfb.cm
 have hcM2 := hcM
 unfold maxLen at hcM2
 have hc60 : (60 : Int) ≤ (c0 : Int) := by omega
 obtain ⟨A64, hA64⟩ : ∃ x, cutA (some (⟨g, 0, none⟩ : Addr)) c0 64 = x := ⟨_, rfl⟩
 have hs64 : ∀ w, (Instr.slice 47 (.slice (some ⟨g, 0, none⟩) T c0) (some (.int .i64 64)) none none).run Tryz.prog w = .ok (.slice A64 (64 * t) (c0 - 64)) w := fun w => by
  have := run_slice1_lo (P := Tryz.prog) w 47 5 Tryz.underlying47 (by kernel_rfl) (some ⟨g, 0, none⟩) T c0 64 64 (64 * t) .i64 rfl (by omega) (by have := HT.out; omega)
  rwa [hA64] at this
 have HC1 : Hid (∀ V, Bys V (some ⟨g, 0, none⟩) T c0 X5 → Bys V (some ⟨g, 0, none⟩) 60 c0 (X5.take 60)) := hH (fun V h => by
  have h2 := h.cut (l := 0) (m := 60) (by omega)
  rw [bvs_cut, List.drop_zero, Nat.sub_zero] at h2
  have e : cutA (some (⟨g, 0, none⟩ : Addr)) c0 0 = some ⟨g, 0, none⟩ := by
   rw [cutA, if_neg (by omega)]
   simp [Addr.add]
  rwa [e] at h2)
 have HC2 : Hid (∀ V, Bys V (some ⟨g, 0, none⟩) T c0 X5 → Bys V A64 (64 * t) (c0 - 64) ((X5.drop 64).take (64 * t))) := hH (fun V h => by
  have h2 := h.cut (l := 64) (m := 64 * t) (by have := HT.out; omega)
  rwa [bvs_cut, hA64] at h2)
 have HFB := hH hfb
 clear htk hr5 hX5 hT5 hD5 hRS hRB hsm hrl hfb hfA hA64 hlt HR HBK
 go_wp2_with fail
 have HSd := hH HS.out.drew
 have HFBd := hH HFB.out.drew
 clear HS HFB
 refine wp_region_held_drew (S := (fun w' => w'.cell? ⟨p, 0, none⟩ = some (.slice (some ⟨g, 0, none⟩) T c0))) (by kernel_rfl) hf0 (fun hSw0 => ?_)
 refine tS 0 63 ?_
 refine tS 1 64 ?_
 refine tS 2 65 ?_
 refine tS 3 66 ?_
 refine tS 4 67 ?_
 refine tS 6 69 ?_
 refine tS 7 70 ?_
 refine tS 8 71 ?_
 refine tS 9 72 ?_
 refine tS 10 73 ?_
 refine tR 5 68 fun K hK => ?_
 go_simp
 refine (ref_sum_any (some ⟨g, 0, none⟩) 60 c0 (X5.take 60) _ (HC1.out _ HFBd.out)).mono ?_
 rintro en va ⟨rfl, hOe⟩
 have HSe := hH (HSd.out.keep hOe)
 have HFBe := hH (HFBd.out.keep0 hOe)
 clear HSd HFBd
 refine hK.out _ _ (hOe.cell hSw0 (by simp)) (fun hSn => ?_)
 clear hK K hSw0
 have hSw0 := hSn
 clear hSn hOe
 refine tR 11 74 fun K hK => ?_
 go_simp
 refine (ref_more_any (csum (X5.take 60)) A64 (64 * t) (c0 - 64) ((X5.drop 64).take (64 * t)) _ (csum_lt _) (HC2.out _ HFBe.out)).mono ?_
 rintro en vb ⟨rfl, hOf⟩
 rw [HSM.out]
 have HSf := hH (HSe.out.keep hOf)
 have HFBf := hH (HFBe.out.keep0 hOf)
 clear HSe HFBe
 refine hK.out _ _ (hOf.cell hSw0 (by simp)) (fun hSn => ?_)
 clear hK K hSw0
 have hSw0 := hSn
 clear hSn hOf
 refine tS 12 9 ?_
 refine tD ?_ _
 have hy0 := HSf.out.row.fk
 have hy1 := HSf.out.row.pz 1
 have hlp := HSf.out.row.lp
 clear hSw0 hs64 hc60
 go_upto_region 15 with fail
 have HS : Hid (Encs w (vb.setCell ⟨p, 1, none⟩ (.int .i64 (60 : Nat))) p g 60 b X5 [.int .i64 rm, .int .i64 rn, .int .i64 rp, .slice A na ca, .slice B t cb]) := hH (HSf.out.put (HSf.out.row.place 60 (by rw [HX5.out]; omega)) ((Only.refl [p, g] vb).set (by simp) _))
 rw [show ((60 : Nat) : Int) = 60 from rfl] at HS
 clear HSf HFBf hy0 hy1 hlp
 generalize vb.setCell ⟨p, 1, none⟩ (.int .i64 60) = vc at *
 go_wp2_with fail
 refine (ref_one_any p g 60 X5 4 (s : Int) _ (by exact HS.out.row) (by decide) (by rw [HX5.out]; omega) (by omega)).mono ?_
 rintro e vd ⟨rfl, hr, hO⟩
 rw [Int.toNat_natCast, HRS.out] at hr
 have HS2 : Hid (Encs w vd p g (60 + 4) b RB [.int .i64 rm, .int .i64 rn, .int .i64 rp, .slice A na ca, .slice B t cb]) := hH (HS.out.put hr hO)
 obtain ⟨A9, c9, hf9, hfb9, hfA9⟩ := row_bys hr
 obtain rfl := hfA9 (by rw [HRL.out]; omega)
 have hoR := hr.own (by rw [HRL.out]; omega)
 have HOR := hH hoR
 have hc9 := hfb9.le
 have hm9 := hfb9.cm
 have hggw := HS.out.hg
 clear hr hO HS hfb9 hfA9 hoR
 go_wp2
 go_ret3
 exact .inr ⟨RB, s, g, c9, HENC.out, rfl, hc9, hm9, hggw, HOR.out, HS2.out.only⟩
end Go.Proofs.YtgcfdjcpcclcjaaGreat
namespace Go.Kn
open Go Go.RowKit
/-- a disk with power, of which nothing is held -/
structure Dk.Live (d : Dk) : Prop where
 off : d.off = false
 fuse : d.fuse = -1
theorem Dk.Live.gone {d : Dk} (h : d.Live) : d.gone = false := by unfold Dk.gone; rw [h.off, h.fuse]; rfl
theorem Dk.Live.act {d : Dk} (h : d.Live) : d.act.Live := by
 have hg := h.gone
 refine ⟨hg, ?_⟩
 unfold Dk.act
 simp only [hg, Bool.false_eq_true, if_false, h.fuse]
 rfl
theorem Dk.Live.write {d : Dk} (h : d.Live) (a : Int) (b : List UInt8) : (d.write a b).1.Live := by
 unfold Dk.write
 split
 ·split
  ·exact h.act
  exact ⟨h.act.off, h.act.fuse⟩
 exact h
theorem Dk.Live.wrs {d : Dk} (h : d.Live) (a : Int) (b : List UInt8) : ∀ i, (d.wrs a b i).Live
 | 0 => h
 | i + 1 => (Dk.Live.wrs h a b i).write _ _
theorem Dk.Live.flush {d : Dk} (h : d.Live) : d.flush = (d.flushed, 0) ∧ d.flushed.Live ∧ d.flushed.held = [] := by
 refine ⟨?_, ⟨h.act.off, h.act.fuse⟩, rfl⟩
 unfold Dk.flush
 rw [h.gone]
 rfl
theorem Dk.Live.puts {d : Dk} (h : d.Live) (a : Int) (b : List UInt8) : (d.puts a b).Live ∧ (d.puts a b).held = [] := by
 unfold Dk.puts
 rw [(h.wrs a b _).flush.1]
 exact (h.wrs a b _).flush.2
/-- records to be laid, in the world -/
structure Krs (w : World) (A : Option Addr) (n c : Nat) (l : List KR) (ss : List (Option Addr × Nat × Nat)) : Prop where
 len : l.length = n
 sl : ss.length = n
 le : n ≤ c
 cm : c ≤ maxLen
 at_ : 0 < n → ∃ g o, A = some ⟨g, o, none⟩ ∧ ∀ i (h : i < l.length) (h2 : i < ss.length), w.cell? ⟨g, o + i * 5, none⟩ = some (slv ss[i]) ∧ w.cell? ⟨g, o + i * 5 + 1, none⟩ = some (.int .i64 l[i].fill) ∧ w.cell? ⟨g, o + i * 5 + 2, none⟩ = some (.int .i64 l[i].skew) ∧ w.cell? ⟨g, o + i * 5 + 3, none⟩ = some (.int .i64 l[i].twist) ∧ w.cell? ⟨g, o + i * 5 + 4, none⟩ = some (.int .i64 l[i].up)
 ks : ∀ i (h : i < l.length) (h2 : i < ss.length), Ins w ss[i].1 ss[i].2.1 ss[i].2.2 l[i].kinds
/-- records laid one behind the other: the place behind them, the disk -/
def logRun (cf : Cf) : List KR → Ps → Dk → Ps × Dk
 | [], q, d => (q, d)
 | r :: rs, q, d => match encRc (kMade q r) with
  | none => (q, d)
  | some (b, s) => if cf.l - 1 < q.o + ((b.length / 64 : Nat) : Int) then (q, d) else logRun cf rs ⟨q.s, q.o + ((b.length / 64 : Nat) : Int), (kMade q r).n + 1, (s : Nat), (kMade q r).m⟩ (d.puts (cf.at_ q.s + q.o) b)
structure PsOk (cf : Cf) (q : Ps) : Prop where
 wf : q.Wf
 s : 0 ≤ q.s ∧ q.s ≤ cf.s - 1
 o : 0 ≤ q.o ∧ q.o ≤ 64
theorem PsOk.at_ {cf : Cf} {q : Ps} (h : PsOk cf q) (hc : cf.Ok) : 0 ≤ cf.at_ q.s ∧ cf.at_ q.s ≤ 100000 := by
 obtain ⟨m1, m2⟩ := Cf.prod cf hc q.s h.s.1 (by have := h.s.2; omega)
 have h1 := rln_bounds hc
 have h2 := pgs_bounds hc
 unfold Cf.at_
 rw [if_pos h.s]
 omega
theorem enc_some {x : Rc} {b : List UInt8} {s : Nat} (h : encRc x = some (b, s)) : rcMay x = true ∧ b = rcBytes x ∧ s = rcSum x ∧ b.length = 64 * (1 + x.bl.length) ∧ x.bl.length ≤ 6 ∧ (1 ≤ x.m ∧ x.m ≤ 2147483647) ∧ (1 ≤ x.n ∧ x.n ≤ 2147483647) ∧ s < 4294967296 := by
 unfold encRc at h
 split at h
 ·rename_i hm
  injection h with h
  injection h with h1 h2
  subst h1 h2
  obtain ⟨⟨q1, q2, q3, q4, q5⟩, q6, q7, q8⟩ := rcMay_iff.1 hm
  refine ⟨hm, rfl, rfl, rcBytes_length hm, ?_, q1, q2, csum_lt _⟩
  rw [q7]
  have : loads x.its ≤ x.its.length := List.length_filter_le _ _
  omega
 cases h
theorem PsOk.next {cf : Cf} {q : Ps} (h : PsOk cf q) (hc : cf.Ok) {r : KR} {b : List UInt8} {s : Nat} (he : encRc (kMade q r) = some (b, s)) (hn : ¬ cf.l - 1 < q.o + ((b.length / 64 : Nat) : Int)) : PsOk cf ⟨q.s, q.o + ((b.length / 64 : Nat) : Int), (kMade q r).n + 1, (s : Nat), (kMade q r).m⟩ := by
 obtain ⟨_, _, _, _, _, h1, h2, h3⟩ := enc_some he
 have hl := hc.2.2
 have ho := h.o
 exact ⟨⟨by show -1000000000000 ≤ (kMade q r).m ∧ (kMade q r).m ≤ 1000000000000; omega, by show -1000000000000 ≤ (kMade q r).n + 1 ∧ (kMade q r).n + 1 ≤ 1000000000000; omega, by show -1000000000000 ≤ ((s : Nat) : Int) ∧ ((s : Nat) : Int) ≤ 1000000000000; omega⟩, h.s, by show 0 ≤ q.o + ((b.length / 64 : Nat) : Int) ∧ q.o + ((b.length / 64 : Nat) : Int) ≤ 64; omega⟩
end Go.Kn
namespace Go.Proofs.YtgcfdjcpcclcjaaGreat
open Go Go.RowKit Go.Kn
theorem Duo.head {w0 w : World} {p : PD} {r : RD} {d e : Dk} {b : Nat} {xs ys : List Value} {L : List (Nat × List Value)} {G : List Gs} {F : List (World → Prop)} {w' : World} (h : Duo w0 w p r d e ⟨(b, xs) :: L, G, F⟩) (ho : Kn.Own w' b ys) (hO : Only [b] w w') : Duo w0 w' p r d e ⟨(b, ys) :: L, G, F⟩ := by
 obtain ⟨L0, G0, F0, hw, back⟩ := h.fr
 exact back w' ⟨(b, ys) :: L, G, F⟩ (hw.call1 0 rfl ho hO)
theorem Duo.call {w0 w : World} {p : PD} {r : RD} {d e : Dk} {b : Nat} {xs ys : List Value} {L : List (Nat × List Value)} {G : List Gs} {F : List (World → Prop)} {w' : World} (h : Duo w0 w p r d e ⟨L, G, F⟩) (i : Nat) (hi : L[i]? = some (b, xs)) (ho : Kn.Own w' b ys) (hO : Only [b] w w') : Duo w0 w' p r d e ⟨L.set i (b, ys), G, F⟩ := by
 obtain ⟨L0, G0, F0, hw, back⟩ := h.fr
 have hlt : i < L.length := (List.getElem?_eq_some_iff.1 hi).1
 have h1 := hw.call1 i (p := b) (cs := xs) (by rw [List.getElem?_append_left hlt]; exact hi) ho hO
 rw [List.set_append_left _ _ hlt] at h1
 exact back w' ⟨L.set i (b, ys), G, F⟩ h1
theorem own_set5 {w : World} {b : Nat} {o0 o1 o2 o3 o4 : Value} (h : Kn.Own w b [o0, o1, o2, o3, o4]) (a0 a1 a2 a3 a4 : Value) :
  Kn.Own (((((w.setCell ⟨b, 0, none⟩ a0).setCell ⟨b, 1, none⟩ a1).setCell ⟨b, 2, none⟩ a2).setCell ⟨b, 3, none⟩ a3).setCell ⟨b, 4, none⟩ a4) b [a0, a1, a2, a3, a4] := ((((h.set 0 a0).set 1 a1).set 2 a2).set 3 a3).set 4 a4
theorem only_set5 (w : World) (b : Nat) (a0 a1 a2 a3 a4 : Value) :
  Only [b] w (((((w.setCell ⟨b, 0, none⟩ a0).setCell ⟨b, 1, none⟩ a1).setCell ⟨b, 2, none⟩ a2).setCell ⟨b, 3, none⟩ a3).setCell ⟨b, 4, none⟩ a4) :=
 (((((Only.refl [b] w).set (.inl (by simp)) a0).set (.inl (by simp)) a1).set (.inl (by simp)) a2).set (.inl (by simp)) a3).set (.inl (by simp)) a4
theorem logRun_none {cf : Cf} {r : KR} {rs : List KR} {q : Ps} {d : Dk} (h : encRc (kMade q r) = none) : logRun cf (r :: rs) q d = (q, d) := by unfold logRun; rw [h]
theorem logRun_far {cf : Cf} {r : KR} {rs : List KR} {q : Ps} {d : Dk} {b : List UInt8} {s : Nat} (h : encRc (kMade q r) = some (b, s)) (hf : cf.l - 1 < q.o + ((b.length / 64 : Nat) : Int)) : logRun cf (r :: rs) q d = (q, d) := by
 unfold logRun
 rw [h]
 exact if_pos hf
theorem logRun_go {cf : Cf} {r : KR} {rs : List KR} {q : Ps} {d : Dk} {b : List UInt8} {s : Nat} (h : encRc (kMade q r) = some (b, s)) (hf : ¬ cf.l - 1 < q.o + ((b.length / 64 : Nat) : Int)) :
  logRun cf (r :: rs) q d = logRun cf rs ⟨q.s, q.o + ((b.length / 64 : Nat) : Int), (kMade q r).n + 1, (s : Nat), (kMade q r).m⟩ (d.puts (cf.at_ q.s + q.o) b) := by
 conv => lhs; unfold logRun
 rw [h]
 exact if_neg hf
theorem Duo.lswap {w0 w : World} {p : PD} {r : RD} {d e : Dk} {x y : Nat × List Value} {L : List (Nat × List Value)} {G : List Gs} {F : List (World → Prop)} (h : Duo w0 w p r d e ⟨x :: y :: L, G, F⟩) : Duo w0 w p r d e ⟨y :: x :: L, G, F⟩ := by
 obtain ⟨L0, G0, F0, hw, back⟩ := h.fr
 exact back w ⟨y :: x :: L, G, F⟩ (hw.perm (List.Perm.swap _ _ _) (List.Perm.refl _))
def LogSays (w0 : World) (p : PD) (r : RD) (c : Fr3) (x : Ps × Dk) (e : Ending) (w' : World) : Prop :=
 e = .returned (.tuple #[.agg #[.int .i64 x.1.s, .int .i64 x.1.o, .int .i64 x.1.l, .int .i64 x.1.p, .int .i64 x.1.m], .bool true]) ∧ Duo w0 w' p r x.2 x.2 c
theorem kit_log_any (w0 w : World) (p : PD) (r : RD) (d : Dk) (c : Fr3) (cf : Cf) (q : Ps) (A : Option Addr) (n cc : Nat) (l : List KR) (ss : List (Option Addr × Nat × Nat)) (h : Duo w0 w p r d d c) (hk : (fun W => Krs W A n cc l ss) ∈ c.F) (hl : ∀ x ∈ l, x.Wf) (hc : cf.Ok) (hq : PsOk cf q) (hv : d.Live) (hh : d.held = []) :
  Calls Tryz.prog 17 #[.pointer (some ⟨p.D, 0, none⟩), .pointer (some ⟨r.M, 0, none⟩), .agg #[.int .i64 cf.b, .int .i64 cf.s, .int .i64 cf.l], .agg #[.int .i64 q.s, .int .i64 q.o, .int .i64 q.l, .int .i64 q.p, .int .i64 q.m], .slice A n cc] w (LogSays w0 p r c (logRun cf l q d)) := by
 have hres : Tryz.f17.results = #[.cell 10 32, .tmp 11] := by kernel_rfl
 have HRES := hH hres
 have hkr := h.fact hk
 have hlen := hkr.len
 have hle := hkr.le
 have hcm := hkr.cm
 unfold maxLen at hcm
 have HL := hH hlen
 have HK := hH hk
 have HWF := hH hl
 have HC := hH hc
 have H := hH (((h.newB #[.int .i64 cf.b, .int .i64 cf.s, .int .i64 cf.l] 25 rfl).newB #[.int .i64 q.s, .int .i64 q.o, .int .i64 q.l, .int .i64 q.p, .int .i64 q.m] 32 rfl).newB #[.int .i64 0, .int .i64 0, .int .i64 0, .int .i64 0, .int .i64 0] 32 rfl)
 have HQ0 : Hid (PsOk cf q ∧ d.Live ∧ d.held = []) := hH ⟨hq, hv, hh⟩
 clear h hres hkr hlen hk hl hc hq hv hh
 go_enter Tryz.func17, Tryz.ntmps17
 go_wp2_with fail
 generalize hz1 : ((w.alloc (.cells #[.int .i64 cf.b, .int .i64 cf.s, .int .i64 cf.l] 25)).alloc (.cells #[.int .i64 q.s, .int .i64 q.o, .int .i64 q.l, .int .i64 q.p, .int .i64 q.m] 32)).alloc (.cells #[.int .i64 0, .int .i64 0, .int .i64 0, .int .i64 0, .int .i64 0] 32) = w1 at *
 have hs1 : (w.alloc (.cells #[.int .i64 cf.b, .int .i64 cf.s, .int .i64 cf.l] 25)).heap.size = w.heap.size + 1 := by simp
 have hs2 : ((w.alloc (.cells #[.int .i64 cf.b, .int .i64 cf.s, .int .i64 cf.l] 25)).alloc (.cells #[.int .i64 q.s, .int .i64 q.o, .int .i64 q.l, .int .i64 q.p, .int .i64 q.m] 32)).heap.size = w.heap.size + 1 + 1 := by simp
 rw [hs1, hs2] at H
 clear hz1 hs1 hs2
 generalize w.heap.size = fb at *
 generalize fb + 1 = fp at *
 generalize fp + 1 = fo at *
 have HG0 : Hid (Duo w0 w1 p r d d ⟨(fo, [.int .i64 0, .int .i64 0, .int .i64 0, .int .i64 0, .int .i64 0]) :: (fp, [.int .i64 q.s, .int .i64 q.o, .int .i64 q.l, .int .i64 q.p, .int .i64 q.m]) :: (fb, [.int .i64 cf.b, .int .i64 cf.s, .int .i64 cf.l]) :: c.L, c.G, c.F⟩) := hH H.out
 clear H
 go_loopg [12] n (fun rr i wr => ∃ (j : Nat) (qj : Ps) (dj : Dk), j + rr = n ∧ i = .int .i64 j ∧ logRun cf (l.drop j) qj dj = logRun cf l q d ∧ (PsOk cf qj ∧ dj.Live ∧ dj.held = []) ∧ Duo w0 wr p r dj dj ⟨(fo, [.int .i64 0, .int .i64 0, .int .i64 0, .int .i64 0, .int .i64 0]) :: (fp, [.int .i64 qj.s, .int .i64 qj.o, .int .i64 qj.l, .int .i64 qj.p, .int .i64 qj.m]) :: (fb, [.int .i64 cf.b, .int .i64 cf.s, .int .i64 cf.l]) :: c.L, c.G, c.F⟩)
 case atStart => exact ⟨0, q, d, by omega, rfl, rfl, HQ0.out, HG0.out⟩
 obtain ⟨j, qj, dj, hj, rfl, hrun, hqj, hd⟩ := hrel
 have HRUN := hH hrun
 have HQ := hH hqj
 have HD3 := hH hd
 clear hrun hqj hd HG0 HQ0
 have b1 := HD3.out.box (x := (fp, [.int .i64 qj.s, .int .i64 qj.o, .int .i64 qj.l, .int .i64 qj.p, .int .i64 qj.m])) (by simp)
 have b2 := HD3.out.box (x := (fo, [.int .i64 0, .int .i64 0, .int .i64 0, .int .i64 0, .int .i64 0])) (by simp)
 have b3 := HD3.out.box (x := (fb, [.int .i64 cf.b, .int .i64 cf.s, .int .i64 cf.l])) (by simp)
 by_cases hlt : j < n
 ·have hjl : j < l.length := by rw [HL.out]; exact hlt
  have hkr := HD3.out.fact (f := fun W => Krs W A n cc l ss) HK.out
  have hjs : j < ss.length := by rw [hkr.sl]; exact hlt
  obtain ⟨g, o, rfl, hcl⟩ := hkr.at_ (by omega)
  have HCL : Hid (∀ w' : World, Krs w' (some ⟨g, o, none⟩) n cc l ss → (w'.cell? ⟨g, o + j * 5, none⟩ = some (slv ss[j]) ∧ w'.cell? ⟨g, o + j * 5 + 1, none⟩ = some (.int .i64 l[j].fill) ∧ w'.cell? ⟨g, o + j * 5 + 2, none⟩ = some (.int .i64 l[j].skew) ∧ w'.cell? ⟨g, o + j * 5 + 3, none⟩ = some (.int .i64 l[j].twist) ∧ w'.cell? ⟨g, o + j * 5 + 4, none⟩ = some (.int .i64 l[j].up)) ∧ Ins w' ss[j].1 ss[j].2.1 ss[j].2.2 l[j].kinds) := hH (fun w' hw' => by
   obtain ⟨g', o', e, hc'⟩ := hw'.at_ (by omega)
   injection e with e
   injection e with e1 e2
   subst e1 e2
   exact ⟨hc' j hjl hjs, hw'.ks j hjl hjs⟩)
  have hdr : l.drop j = l[j] :: l.drop (j + 1) := List.drop_eq_getElem_cons hjl
  have hrw := HWF.out l[j] (List.getElem_mem _)
  obtain ⟨⟨s1, s2, s3⟩, hss⟩ : ∃ s, ss[j] = s := ⟨_, rfl⟩
  obtain ⟨kr, hkr2⟩ : ∃ x, l[j] = x := ⟨_, rfl⟩
  rw [hss, hkr2] at HCL
  rw [hkr2] at hdr hrw
  rw [hdr] at HRUN
  have HRW := hH hrw
  have hlt2 : (j : Int) < (n : Int) := by omega
  obtain ⟨x, hx⟩ : ∃ x, kMade qj kr = x := ⟨_, rfl⟩
  have HX := hH hx
  have HD7 := hH HD3.out
  clear hkr hjs hcl hdr hrw hss hkr2 hjl hx b1 b2 b3
  go_wp2_with fail
  have HD8 := hH (HD7.out.keep0 (Only.refl [] wr).drew)
  clear HD7 HD3
  refine wp_region_held_drew (S := fun w' => Kn.Own w' fp [.int .i64 qj.s, .int .i64 qj.o, .int .i64 qj.l, .int .i64 qj.p, .int .i64 qj.m] ∧ Krs w' (some ⟨g, o, none⟩) n cc l ss) (by kernel_rfl) ⟨HD8.out.box (x := (fp, [.int .i64 qj.s, .int .i64 qj.o, .int .i64 qj.l, .int .i64 qj.p, .int .i64 qj.m])) (by simp), HD8.out.fact (f := fun W => Krs W (some ⟨g, o, none⟩) n cc l ss) HK.out⟩ (fun hSw0 => ?_)
  generalize wr.drew = ws at *
  refine tS 0 24 (v := (.agg #[.int .i64 qj.s, .int .i64 qj.o, .int .i64 qj.l, .int .i64 qj.p, .int .i64 qj.m])) (hy := fun w hSw => by
   have q0 := hSw.1
   obtain ⟨q00, q01, q02, q03, q04⟩ := Kn.own5 q0
   clear q0
   go_simp) ?_
  refine tS 1 25 ?_
  refine tS 2 26 ?_
  refine tS 3 27 ?_
  refine tS 4 28 (v := (.agg #[.slice s1 s2 s3, .int .i64 kr.fill, .int .i64 kr.skew, .int .i64 kr.twist, .int .i64 kr.up])) (hy := fun w hSw => by
   obtain ⟨⟨k0, k1, k2, k3, k4⟩, _⟩ := HCL.out _ hSw.2
   simp only [slv] at k0
   go_simp) ?_
  refine wpAnyH_ready (rs := [5, 6]) (by kernel_rfl) (by simp) ?_
  refine AllReadyH.cons (o := ⟨some 29, _, _, _, _, _⟩) rfl (fun K hK => ?_) ?_
  ·go_simp
   refine (kit_made_any qj kr s1 s2 s3 _ (HCL.out _ hSw0.2).2 HQ.out.1.wf HRW.out).mono ?_
   rintro en va ⟨s, t, rfl, hfc, hO⟩
   rw [HX.out] at hfc ⊢
   have HDa8 := hH (HD8.out.addFc hO hfc)
   clear hfc hO HD8
   refine hK.out _ _ ⟨HDa8.out.box (x := (fp, [.int .i64 qj.s, .int .i64 qj.o, .int .i64 qj.l, .int .i64 qj.p, .int .i64 qj.m])) (by simp), HDa8.out.fact (f := fun W => Krs W (some ⟨g, o, none⟩) n cc l ss) (mc _ HK.out)⟩ (fun hSn => ?_)
   clear hK K hSw0
   have hSw0 := hSn
   clear hSn
   refine tR 6 13 fun K hK => ?_
   go_simp
   have HDba8 := hH (HDa8.out.newB #[.int .i64 0, .int .i64 0, .int .i64 0, .slice none 0 0, .slice none 0 0] 56 rfl)
   clear HDa8
   generalize va.heap.size = fr at *
   generalize hvb : va.alloc (.cells #[.int .i64 0, .int .i64 0, .int .i64 0, .slice none 0 0, .slice none 0 0] 56) = vb at *
   clear hvb
   refine hK.out _ _ ⟨HDba8.out.box (x := (fp, [.int .i64 qj.s, .int .i64 qj.o, .int .i64 qj.l, .int .i64 qj.p, .int .i64 qj.m])) (by simp), HDba8.out.fact (f := fun W => Krs W (some ⟨g, o, none⟩) n cc l ss) (mc _ HK.out)⟩ (fun hSn => ?_)
   clear hK K hSw0
   have hSw0 := hSn
   clear hSn
   refine Kn.takeR 7 ⟨none, _, _, _, _, _⟩ fun K hK => ?_
   refine step_store_own rfl 56 (.tmp 13) (.tmp 29) rfl fr [.int .i64 0, .int .i64 0, .int .i64 0, .slice none 0 0, .slice none 0 0] [.int .i64 x.m, .int .i64 x.n, .int .i64 x.p, slv s, slv t] (by kernel_rfl) rfl rfl (HDba8.out.box (x := (fr, [.int .i64 0, .int .i64 0, .int .i64 0, .slice none 0 0, .slice none 0 0])) (by simp)) rfl (by intro u hu; simp at hu; rcases hu with rfl | rfl | rfl | rfl | rfl <;> rfl) ?_
   intro w9 ho9 hO9
   have HD9 := hH (HDba8.out.head ho9 hO9)
   clear ho9 hO9 HDba8
   refine hK.out _ _ ⟨HD9.out.box (x := (fp, [.int .i64 qj.s, .int .i64 qj.o, .int .i64 qj.l, .int .i64 qj.p, .int .i64 qj.m])) (by simp), HD9.out.fact (f := fun W => Krs W (some ⟨g, o, none⟩) n cc l ss) (mc _ HK.out)⟩ (fun hSn => ?_)
   clear hK K hSw0 hSn
   refine tD ?_ _
   obtain ⟨s1', s2', s3'⟩ := s
   obtain ⟨t1', t2', t3'⟩ := t
   simp only [slv] at HD9
   have bx := HD9.out.box (x := (fr, [.int .i64 x.m, .int .i64 x.n, .int .i64 x.p, .slice s1' s2' s3', .slice t1' t2' t3'])) (by simp)
   obtain ⟨x0, x1, x2, x3, x4⟩ := Kn.own5 bx
   have b1 := HD9.out.box (x := (fp, [.int .i64 qj.s, .int .i64 qj.o, .int .i64 qj.l, .int .i64 qj.p, .int .i64 qj.m])) (by simp)
   have b2 := HD9.out.box (x := (fo, [.int .i64 0, .int .i64 0, .int .i64 0, .int .i64 0, .int .i64 0])) (by simp)
   have b3 := HD9.out.box (x := (fb, [.int .i64 cf.b, .int .i64 cf.s, .int .i64 cf.l])) (by simp)
   have hrc := HD9.out.fact (f := fun W => RcAt W x (s1', s2', s3') (t1', t2', t3')) List.mem_cons_self
   have HRC := hH hrc
   clear hrc bx
   go_wp2_with fail
   refine (ref_rec_enc_any x.m x.n x.p s1' s2' s3' x.its t1' t2' t3' x.bl _ HRC.out.1 HRC.out.2).mono ?_
   rintro en wa hen
   have hxe : (⟨x.m, x.n, x.p, x.its, x.bl⟩ : Rc) = x := rfl
   rw [hxe] at hen
   clear hxe x0 x1 x2 x3 x4
   cases he : encRc x with
   | none =>
    rw [he] at hen
    obtain ⟨rfl, hO⟩ := EncRc.of_none hen
    have HE := hH he
    have c1 := b1.keep0 hO
    have c2 := b2.keep0 hO
    obtain ⟨y0, y1, y2, y3, y4⟩ := Kn.own5 c1
    have z0 := c2.frozen 0
    have z1 := c2.frozen 1
    have z2 := c2.frozen 2
    have z3 := c2.frozen 3
    have z4 := c2.frozen 4
    obtain ⟨v0, v1, v2, v3, v4⟩ := Kn.own5 c2
    have HO2 := hH (HD9.out.keep0 hO)
    clear he hen hO b1 b2 b3 c1 c2 HD9 HRC
    have HFIN : Hid (logRun cf (kr :: l.drop (j + 1)) qj dj = (qj, dj)) := hH (logRun_none (by rw [HX.out]; exact HE.out))
    go_wp2
    have HEND := hH (Duo.subF ((HO2.out.call 1 rfl (own_set5 (HO2.out.box (x := (fo, [.int .i64 0, .int .i64 0, .int .i64 0, .int .i64 0, .int .i64 0])) (by simp)) (.int .i64 qj.s) (.int .i64 qj.o) (.int .i64 qj.l) (.int .i64 qj.p) (.int .i64 qj.m)) (only_set5 _ fo _ _ _ _ _)).ldrop.ldrop.ldrop.ldrop) (F' := c.F) (fun f hf => by simp [hf]))
    (try simp only [Exit.inBlock, Exit.then])
    refine bodyPost_ret (v := .tuple #[.agg #[.int .i64 qj.s, .int .i64 qj.o, .int .i64 qj.l, .int .i64 qj.p, .int .i64 qj.m], .bool true]) ?_ rfl ?_
    ·simp only [results, HRES.out]
     go_simp
    rw [← HRUN.out, HFIN.out]
    exact ⟨rfl, HEND.out⟩
   | some bs =>
    obtain ⟨b, sm⟩ := bs
    rw [he] at hen
    obtain ⟨g2, c2, rfl, hbc, hcm2, hg2, hown, hO⟩ := EncRc.of_some hen
    obtain ⟨hq1, hq2, hq3, hbl, hb6, hxm, hxn, hsm⟩ := enc_some he
    clear hq1 hq2 hq3
    have HE := hH he
    have HO2 := hH (HD9.out.addFc hO (f := fun W => Bys W (some ⟨g2, 0, none⟩) b.length c2 b) (Row1.fc (Row1.of_Own hown (by rw [bvs_length]) hbc hcm2) (fun _ a ha => by injection ha with ha; subst ha; simp; omega)))
    have c1 := b1.keep0 hO
    have c3 := b3.keep0 hO
    obtain ⟨y0, y1, y2, y3, y4⟩ := Kn.own5 c1
    have u2 := c3.cell 2 (by simp)
    simp only [g0, gs] at u2
    have hbd : b.length / 64 = 1 + x.bl.length := by omega
    have HBD := hH hbd
    have HBL := hH hbl
    obtain ⟨m, hm⟩ : ∃ m, b.length / 64 = m := ⟨_, rfl⟩
    obtain ⟨N, hN⟩ : ∃ N, b.length = N := ⟨_, rfl⟩
    have hdiv : (N : Int) / 64 = (m : Int) := by rw [← hN, ← hm]; omega
    have hm7 : 1 ≤ m ∧ m ≤ 7 := by omega
    have hN7 : N ≤ 448 := by omega
    rw [hN] at HO2 ⊢
    have HNN := hH hN
    have HMM := hH hm
    obtain ⟨hm1, hm2⟩ := hm7
    obtain ⟨hqo0, hqo1⟩ := HQ.out.1.o
    obtain ⟨hcl0, hcl1⟩ := HC.out.2.2
    clear he hen hO b1 b2 b3 c1 HD9 HRC hbl hb6 hbd hown hN hm hg2 hbc
    by_cases hfar : cf.l - 1 < qj.o + (m : Int)
    ·have HFIN : Hid (logRun cf (kr :: l.drop (j + 1)) qj dj = (qj, dj)) := hH (logRun_far (by rw [HX.out]; exact HE.out) (by rw [HMM.out]; exact hfar))
     have c2' := HO2.out.box (x := (fo, [.int .i64 0, .int .i64 0, .int .i64 0, .int .i64 0, .int .i64 0])) (by simp)
     obtain ⟨v0, v1, v2, v3, v4⟩ := Kn.own5 (c2')
     have z0 := c2'.frozen 0
     have z1 := c2'.frozen 1
     have z2 := c2'.frozen 2
     have z3 := c2'.frozen 3
     have z4 := c2'.frozen 4
     clear c2' c3
     go_wp2
     have HEND := hH (Duo.subF ((HO2.out.call 1 rfl (own_set5 (HO2.out.box (x := (fo, [.int .i64 0, .int .i64 0, .int .i64 0, .int .i64 0, .int .i64 0])) (by simp)) (.int .i64 qj.s) (.int .i64 qj.o) (.int .i64 qj.l) (.int .i64 qj.p) (.int .i64 qj.m)) (only_set5 _ fo _ _ _ _ _)).ldrop.ldrop.ldrop.ldrop) (F' := c.F) (fun f hf => by simp [hf]))
     (try simp only [Exit.inBlock, Exit.then])
     refine bodyPost_ret (v := .tuple #[.agg #[.int .i64 qj.s, .int .i64 qj.o, .int .i64 qj.l, .int .i64 qj.p, .int .i64 qj.m], .bool true]) ?_ rfl ?_
     ·simp only [results, HRES.out]
      go_simp
     rw [← HRUN.out, HFIN.out]
     exact ⟨rfl, HEND.out⟩
    have HFIN : Hid (logRun cf (kr :: l.drop (j + 1)) qj dj = _) := hH (logRun_go (rs := l.drop (j + 1)) (d := dj) (by rw [HX.out]; exact HE.out) (by rw [HMM.out]; exact hfar))
    have HNX := hH (HQ.out.1.next HC.out (by rw [HX.out]; exact HE.out) (by rw [HMM.out]; exact hfar))
    have HAT := hH (HQ.out.1.at_ HC.out)
    rw [HX.out, HMM.out] at HFIN HNX
    clear c3
    go_wp2_with fail
    have HO3 := hH (HO2.out.keep0 (Only.refl [] wa).drew)
    clear HO2 y0 y1 y2 y3 y4 u2
    refine wp_region_held_drew (S := (fun w' => Kn.Own w' fp [.int .i64 qj.s, .int .i64 qj.o, .int .i64 qj.l, .int .i64 qj.p, .int .i64 qj.m] ∧ Kn.Own w' fb [.int .i64 cf.b, .int .i64 cf.s, .int .i64 cf.l])) (by kernel_rfl) ⟨HO3.out.box (x := (fp, [.int .i64 qj.s, .int .i64 qj.o, .int .i64 qj.l, .int .i64 qj.p, .int .i64 qj.m])) (by simp), HO3.out.box (x := (fb, [.int .i64 cf.b, .int .i64 cf.s, .int .i64 cf.l])) (by simp)⟩ (fun hSw0 => ?_)
    generalize wa.drew = wt at *
    refine tS 0 52 ?_
    refine tS 1 53 ?_
    refine tS 2 54 (v := (.agg #[.int .i64 cf.b, .int .i64 cf.s, .int .i64 cf.l])) (hy := fun w hSw => by
     have q0 := hSw.2
     obtain ⟨q00, q01, q02⟩ := Kn.own3 q0
     clear q0
     go_simp) ?_
    refine tS 3 55 ?_
    refine tS 4 56 (v := (.int .i64 qj.s)) (hy := fun w hSw => by
     have q0 := Kn.own1 hSw.1
     go_simp) ?_
    refine tS 6 58 ?_
    refine tS 7 59 (v := (.int .i64 qj.o)) (hy := fun w hSw => by
     have q0 := hSw.1.cell 1 (by simp)
     simp only [g0, gs] at q0
     go_simp) ?_
    refine tS 9 61 ?_
    refine tR 5 57 fun K hK => ?_
    go_simp
    refine (ref_segat_any cf qj.s _ HC.out).mono ?_
    rintro en wu ⟨rfl, hO⟩
    have HO4 := hH (HO3.out.keep0 hO)
    clear hO HO3
    have hat := HAT.out
    have hw3 := IntWalk.i64_in (cf.at_ qj.s + qj.o) (by omega)
    clear hat
    refine hK.out _ _ ⟨HO4.out.box (x := (fp, [.int .i64 qj.s, .int .i64 qj.o, .int .i64 qj.l, .int .i64 qj.p, .int .i64 qj.m])) (by simp), HO4.out.box (x := (fb, [.int .i64 cf.b, .int .i64 cf.s, .int .i64 cf.l])) (by simp)⟩ (fun hSn => ?_)
    clear hK K hSw0
    have hSw0 := hSn
    clear hSn
    refine tS 8 60 ?_
    refine tR 10 62 fun K hK => ?_
    go_simp
    refine (kit_put_any w0 _ p r dj _ (cf.at_ qj.s + qj.o) (some ⟨g2, 0, none⟩) N c2 b HO4.out List.mem_cons_self (by rw [HQ.out.2.2]; simp) (by omega) (by have := HAT.out; omega)).mono ?_
    rintro en wv ⟨rfl, hd⟩
    have HO5 := hH hd
    clear hd HO4
    refine hK.out _ _ ⟨HO5.out.box (x := (fp, [.int .i64 qj.s, .int .i64 qj.o, .int .i64 qj.l, .int .i64 qj.p, .int .i64 qj.m])) (by simp), HO5.out.box (x := (fb, [.int .i64 cf.b, .int .i64 cf.s, .int .i64 cf.l])) (by simp)⟩ (fun hSn => ?_)
    clear hK K hSw0
    have hSw0 := hSn
    clear hSn
    refine tS 11 63 ?_
    refine tD ?_ _
    clear hSw0
    have c1 := HO5.out.box (x := (fp, [.int .i64 qj.s, .int .i64 qj.o, .int .i64 qj.l, .int .i64 qj.p, .int .i64 qj.m])) (by simp)
    obtain ⟨y0, y1, y2, y3, y4⟩ := Kn.own5 c1
    have z0 := c1.frozen 0
    have z1 := c1.frozen 1
    have z2 := c1.frozen 2
    have z3 := c1.frozen 3
    have z4 := c1.frozen 4
    have cx := HO5.out.box (x := (fr, [.int .i64 x.m, .int .i64 x.n, .int .i64 x.p, .slice s1' s2' s3', .slice t1' t2' t3'])) (by simp)
    obtain ⟨x0, x1⟩ := Kn.own2 cx
    have HO6 := hH (HO5.out.call 2 rfl (own_set5 c1 (.int .i64 qj.s) (.int .i64 (qj.o + (m : Int))) (.int .i64 (x.n + 1)) (.int .i64 (sm : Nat)) (.int .i64 x.m)) (only_set5 _ fp _ _ _ _ _))
    have HLV := hH (HQ.out.2.1.puts (cf.at_ qj.s + qj.o) b)
    clear c1 cx HO5
    have hnb : -1000000 ≤ x.n ∧ x.n ≤ 2147483647 := by omega
    obtain ⟨hnb0, hnb1⟩ := hnb
    go_wp2_with fail
    go_roundg (gk - 1)
    case measure => omega
    case rel => exact ⟨j + 1, _, _, by omega, by go_num, HFIN.out.symm.trans HRUN.out, ⟨HNX.out, HLV.out.1, HLV.out.2⟩, (Duo.subF HO6.out.ldrop (F' := c.F) (fun f hf => by simp [hf]))⟩
  refine AllReadyH.cons (o := ⟨some 13, _, _, _, _, _⟩) rfl (fun K hK => ?_) ?_
  ·go_simp
   have HDb8 := hH (HD8.out.newB #[.int .i64 0, .int .i64 0, .int .i64 0, .slice none 0 0, .slice none 0 0] 56 rfl)
   clear HD8
   generalize ws.heap.size = fr at *
   generalize hvb : ws.alloc (.cells #[.int .i64 0, .int .i64 0, .int .i64 0, .slice none 0 0, .slice none 0 0] 56) = vb at *
   clear hvb
   refine hK.out _ _ ⟨HDb8.out.box (x := (fp, [.int .i64 qj.s, .int .i64 qj.o, .int .i64 qj.l, .int .i64 qj.p, .int .i64 qj.m])) (by simp), HDb8.out.fact (f := fun W => Krs W (some ⟨g, o, none⟩) n cc l ss) HK.out⟩ (fun hSn => ?_)
   clear hK K hSw0
   have hSw0 := hSn
   clear hSn
   refine tR 5 29 fun K hK => ?_
   go_simp
   refine (kit_made_any qj kr s1 s2 s3 _ (HCL.out _ hSw0.2).2 HQ.out.1.wf HRW.out).mono ?_
   rintro en va ⟨s, t, rfl, hfc, hO⟩
   rw [HX.out] at hfc ⊢
   have HDab8 := hH (HDb8.out.addFc hO hfc)
   clear hfc hO HDb8
   refine hK.out _ _ ⟨HDab8.out.box (x := (fp, [.int .i64 qj.s, .int .i64 qj.o, .int .i64 qj.l, .int .i64 qj.p, .int .i64 qj.m])) (by simp), HDab8.out.fact (f := fun W => Krs W (some ⟨g, o, none⟩) n cc l ss) (mc _ HK.out)⟩ (fun hSn => ?_)
   clear hK K hSw0
   have hSw0 := hSn
   clear hSn
   refine Kn.takeR 7 ⟨none, _, _, _, _, _⟩ fun K hK => ?_
   refine step_store_own rfl 56 (.tmp 13) (.tmp 29) rfl fr [.int .i64 0, .int .i64 0, .int .i64 0, .slice none 0 0, .slice none 0 0] [.int .i64 x.m, .int .i64 x.n, .int .i64 x.p, slv s, slv t] (by kernel_rfl) rfl rfl (HDab8.out.box (x := (fr, [.int .i64 0, .int .i64 0, .int .i64 0, .slice none 0 0, .slice none 0 0])) (by simp)) rfl (by intro u hu; simp at hu; rcases hu with rfl | rfl | rfl | rfl | rfl <;> rfl) ?_
   intro w9 ho9 hO9
   have HD9 := hH (HDab8.out.head ho9 hO9)
   clear ho9 hO9 HDab8
   refine hK.out _ _ ⟨HD9.out.box (x := (fp, [.int .i64 qj.s, .int .i64 qj.o, .int .i64 qj.l, .int .i64 qj.p, .int .i64 qj.m])) (by simp), HD9.out.fact (f := fun W => Krs W (some ⟨g, o, none⟩) n cc l ss) (mc _ HK.out)⟩ (fun hSn => ?_)
   clear hK K hSw0 hSn
   refine tD ?_ _
   obtain ⟨s1', s2', s3'⟩ := s
   obtain ⟨t1', t2', t3'⟩ := t
   simp only [slv] at HD9
   have bx := HD9.out.box (x := (fr, [.int .i64 x.m, .int .i64 x.n, .int .i64 x.p, .slice s1' s2' s3', .slice t1' t2' t3'])) (by simp)
   obtain ⟨x0, x1, x2, x3, x4⟩ := Kn.own5 bx
   have b1 := HD9.out.box (x := (fp, [.int .i64 qj.s, .int .i64 qj.o, .int .i64 qj.l, .int .i64 qj.p, .int .i64 qj.m])) (by simp)
   have b2 := HD9.out.box (x := (fo, [.int .i64 0, .int .i64 0, .int .i64 0, .int .i64 0, .int .i64 0])) (by simp)
   have b3 := HD9.out.box (x := (fb, [.int .i64 cf.b, .int .i64 cf.s, .int .i64 cf.l])) (by simp)
   have hrc := HD9.out.fact (f := fun W => RcAt W x (s1', s2', s3') (t1', t2', t3')) List.mem_cons_self
   have HRC := hH hrc
   clear hrc bx
   go_wp2_with fail
   refine (ref_rec_enc_any x.m x.n x.p s1' s2' s3' x.its t1' t2' t3' x.bl _ HRC.out.1 HRC.out.2).mono ?_
   rintro en wa hen
   have hxe : (⟨x.m, x.n, x.p, x.its, x.bl⟩ : Rc) = x := rfl
   rw [hxe] at hen
   clear hxe x0 x1 x2 x3 x4
   cases he : encRc x with
   | none =>
    rw [he] at hen
    obtain ⟨rfl, hO⟩ := EncRc.of_none hen
    have HE := hH he
    have c1 := b1.keep0 hO
    have c2 := b2.keep0 hO
    obtain ⟨y0, y1, y2, y3, y4⟩ := Kn.own5 c1
    have z0 := c2.frozen 0
    have z1 := c2.frozen 1
    have z2 := c2.frozen 2
    have z3 := c2.frozen 3
    have z4 := c2.frozen 4
    obtain ⟨v0, v1, v2, v3, v4⟩ := Kn.own5 c2
    have HO2 := hH (HD9.out.keep0 hO)
    clear he hen hO b1 b2 b3 c1 c2 HD9 HRC
    have HFIN : Hid (logRun cf (kr :: l.drop (j + 1)) qj dj = (qj, dj)) := hH (logRun_none (by rw [HX.out]; exact HE.out))
    go_wp2
    have HEND := hH (Duo.subF ((HO2.out.call 1 rfl (own_set5 (HO2.out.box (x := (fo, [.int .i64 0, .int .i64 0, .int .i64 0, .int .i64 0, .int .i64 0])) (by simp)) (.int .i64 qj.s) (.int .i64 qj.o) (.int .i64 qj.l) (.int .i64 qj.p) (.int .i64 qj.m)) (only_set5 _ fo _ _ _ _ _)).ldrop.ldrop.ldrop.ldrop) (F' := c.F) (fun f hf => by simp [hf]))
    (try simp only [Exit.inBlock, Exit.then])
    refine bodyPost_ret (v := .tuple #[.agg #[.int .i64 qj.s, .int .i64 qj.o, .int .i64 qj.l, .int .i64 qj.p, .int .i64 qj.m], .bool true]) ?_ rfl ?_
    ·simp only [results, HRES.out]
     go_simp
    rw [← HRUN.out, HFIN.out]
    exact ⟨rfl, HEND.out⟩
   | some bs =>
    obtain ⟨b, sm⟩ := bs
    rw [he] at hen
    obtain ⟨g2, c2, rfl, hbc, hcm2, hg2, hown, hO⟩ := EncRc.of_some hen
    obtain ⟨hq1, hq2, hq3, hbl, hb6, hxm, hxn, hsm⟩ := enc_some he
    clear hq1 hq2 hq3
    have HE := hH he
    have HO2 := hH (HD9.out.addFc hO (f := fun W => Bys W (some ⟨g2, 0, none⟩) b.length c2 b) (Row1.fc (Row1.of_Own hown (by rw [bvs_length]) hbc hcm2) (fun _ a ha => by injection ha with ha; subst ha; simp; omega)))
    have c1 := b1.keep0 hO
    have c3 := b3.keep0 hO
    obtain ⟨y0, y1, y2, y3, y4⟩ := Kn.own5 c1
    have u2 := c3.cell 2 (by simp)
    simp only [g0, gs] at u2
    have hbd : b.length / 64 = 1 + x.bl.length := by omega
    have HBD := hH hbd
    have HBL := hH hbl
    obtain ⟨m, hm⟩ : ∃ m, b.length / 64 = m := ⟨_, rfl⟩
    obtain ⟨N, hN⟩ : ∃ N, b.length = N := ⟨_, rfl⟩
    have hdiv : (N : Int) / 64 = (m : Int) := by rw [← hN, ← hm]; omega
    have hm7 : 1 ≤ m ∧ m ≤ 7 := by omega
    have hN7 : N ≤ 448 := by omega
    rw [hN] at HO2 ⊢
    have HNN := hH hN
    have HMM := hH hm
    obtain ⟨hm1, hm2⟩ := hm7
    obtain ⟨hqo0, hqo1⟩ := HQ.out.1.o
    obtain ⟨hcl0, hcl1⟩ := HC.out.2.2
    clear he hen hO b1 b2 b3 c1 HD9 HRC hbl hb6 hbd hown hN hm hg2 hbc
    by_cases hfar : cf.l - 1 < qj.o + (m : Int)
    ·have HFIN : Hid (logRun cf (kr :: l.drop (j + 1)) qj dj = (qj, dj)) := hH (logRun_far (by rw [HX.out]; exact HE.out) (by rw [HMM.out]; exact hfar))
     have c2' := HO2.out.box (x := (fo, [.int .i64 0, .int .i64 0, .int .i64 0, .int .i64 0, .int .i64 0])) (by simp)
     obtain ⟨v0, v1, v2, v3, v4⟩ := Kn.own5 (c2')
     have z0 := c2'.frozen 0
     have z1 := c2'.frozen 1
     have z2 := c2'.frozen 2
     have z3 := c2'.frozen 3
     have z4 := c2'.frozen 4
     clear c2' c3
     go_wp2
     have HEND := hH (Duo.subF ((HO2.out.call 1 rfl (own_set5 (HO2.out.box (x := (fo, [.int .i64 0, .int .i64 0, .int .i64 0, .int .i64 0, .int .i64 0])) (by simp)) (.int .i64 qj.s) (.int .i64 qj.o) (.int .i64 qj.l) (.int .i64 qj.p) (.int .i64 qj.m)) (only_set5 _ fo _ _ _ _ _)).ldrop.ldrop.ldrop.ldrop) (F' := c.F) (fun f hf => by simp [hf]))
     (try simp only [Exit.inBlock, Exit.then])
     refine bodyPost_ret (v := .tuple #[.agg #[.int .i64 qj.s, .int .i64 qj.o, .int .i64 qj.l, .int .i64 qj.p, .int .i64 qj.m], .bool true]) ?_ rfl ?_
     ·simp only [results, HRES.out]
      go_simp
     rw [← HRUN.out, HFIN.out]
     exact ⟨rfl, HEND.out⟩
    have HFIN : Hid (logRun cf (kr :: l.drop (j + 1)) qj dj = _) := hH (logRun_go (rs := l.drop (j + 1)) (d := dj) (by rw [HX.out]; exact HE.out) (by rw [HMM.out]; exact hfar))
    have HNX := hH (HQ.out.1.next HC.out (by rw [HX.out]; exact HE.out) (by rw [HMM.out]; exact hfar))
    have HAT := hH (HQ.out.1.at_ HC.out)
    rw [HX.out, HMM.out] at HFIN HNX
    clear c3
    go_wp2_with fail
    have HO3 := hH (HO2.out.keep0 (Only.refl [] wa).drew)
    clear HO2 y0 y1 y2 y3 y4 u2
    refine wp_region_held_drew (S := (fun w' => Kn.Own w' fp [.int .i64 qj.s, .int .i64 qj.o, .int .i64 qj.l, .int .i64 qj.p, .int .i64 qj.m] ∧ Kn.Own w' fb [.int .i64 cf.b, .int .i64 cf.s, .int .i64 cf.l])) (by kernel_rfl) ⟨HO3.out.box (x := (fp, [.int .i64 qj.s, .int .i64 qj.o, .int .i64 qj.l, .int .i64 qj.p, .int .i64 qj.m])) (by simp), HO3.out.box (x := (fb, [.int .i64 cf.b, .int .i64 cf.s, .int .i64 cf.l])) (by simp)⟩ (fun hSw0 => ?_)
    generalize wa.drew = wt at *
    refine tS 0 52 ?_
    refine tS 1 53 ?_
    refine tS 2 54 (v := (.agg #[.int .i64 cf.b, .int .i64 cf.s, .int .i64 cf.l])) (hy := fun w hSw => by
     have q0 := hSw.2
     obtain ⟨q00, q01, q02⟩ := Kn.own3 q0
     clear q0
     go_simp) ?_
    refine tS 3 55 ?_
    refine tS 4 56 (v := (.int .i64 qj.s)) (hy := fun w hSw => by
     have q0 := Kn.own1 hSw.1
     go_simp) ?_
    refine tS 6 58 ?_
    refine tS 7 59 (v := (.int .i64 qj.o)) (hy := fun w hSw => by
     have q0 := hSw.1.cell 1 (by simp)
     simp only [g0, gs] at q0
     go_simp) ?_
    refine tS 9 61 ?_
    refine tR 5 57 fun K hK => ?_
    go_simp
    refine (ref_segat_any cf qj.s _ HC.out).mono ?_
    rintro en wu ⟨rfl, hO⟩
    have HO4 := hH (HO3.out.keep0 hO)
    clear hO HO3
    have hat := HAT.out
    have hw3 := IntWalk.i64_in (cf.at_ qj.s + qj.o) (by omega)
    clear hat
    refine hK.out _ _ ⟨HO4.out.box (x := (fp, [.int .i64 qj.s, .int .i64 qj.o, .int .i64 qj.l, .int .i64 qj.p, .int .i64 qj.m])) (by simp), HO4.out.box (x := (fb, [.int .i64 cf.b, .int .i64 cf.s, .int .i64 cf.l])) (by simp)⟩ (fun hSn => ?_)
    clear hK K hSw0
    have hSw0 := hSn
    clear hSn
    refine tS 8 60 ?_
    refine tR 10 62 fun K hK => ?_
    go_simp
    refine (kit_put_any w0 _ p r dj _ (cf.at_ qj.s + qj.o) (some ⟨g2, 0, none⟩) N c2 b HO4.out List.mem_cons_self (by rw [HQ.out.2.2]; simp) (by omega) (by have := HAT.out; omega)).mono ?_
    rintro en wv ⟨rfl, hd⟩
    have HO5 := hH hd
    clear hd HO4
    refine hK.out _ _ ⟨HO5.out.box (x := (fp, [.int .i64 qj.s, .int .i64 qj.o, .int .i64 qj.l, .int .i64 qj.p, .int .i64 qj.m])) (by simp), HO5.out.box (x := (fb, [.int .i64 cf.b, .int .i64 cf.s, .int .i64 cf.l])) (by simp)⟩ (fun hSn => ?_)
    clear hK K hSw0
    have hSw0 := hSn
    clear hSn
    refine tS 11 63 ?_
    refine tD ?_ _
    clear hSw0
    have c1 := HO5.out.box (x := (fp, [.int .i64 qj.s, .int .i64 qj.o, .int .i64 qj.l, .int .i64 qj.p, .int .i64 qj.m])) (by simp)
    obtain ⟨y0, y1, y2, y3, y4⟩ := Kn.own5 c1
    have z0 := c1.frozen 0
    have z1 := c1.frozen 1
    have z2 := c1.frozen 2
    have z3 := c1.frozen 3
    have z4 := c1.frozen 4
    have cx := HO5.out.box (x := (fr, [.int .i64 x.m, .int .i64 x.n, .int .i64 x.p, .slice s1' s2' s3', .slice t1' t2' t3'])) (by simp)
    obtain ⟨x0, x1⟩ := Kn.own2 cx
    have HO6 := hH (HO5.out.call 2 rfl (own_set5 c1 (.int .i64 qj.s) (.int .i64 (qj.o + (m : Int))) (.int .i64 (x.n + 1)) (.int .i64 (sm : Nat)) (.int .i64 x.m)) (only_set5 _ fp _ _ _ _ _))
    have HLV := hH (HQ.out.2.1.puts (cf.at_ qj.s + qj.o) b)
    clear c1 cx HO5
    have hnb : -1000000 ≤ x.n ∧ x.n ≤ 2147483647 := by omega
    obtain ⟨hnb0, hnb1⟩ := hnb
    go_wp2_with fail
    go_roundg (gk - 1)
    case measure => omega
    case rel => exact ⟨j + 1, _, _, by omega, by go_num, HFIN.out.symm.trans HRUN.out, ⟨HNX.out, HLV.out.1, HLV.out.2⟩, (Duo.subF HO6.out.ldrop (F' := c.F) (fun f hf => by simp [hf]))⟩
  exact AllReadyH.nil
 obtain rfl : j = n := by omega
 have hdr : l.drop j = [] := List.drop_of_length_le (by rw [HL.out]; exact Nat.le_refl _)
 rw [hdr] at HRUN
 have HFIN : Hid (logRun cf [] qj dj = (qj, dj)) := hH rfl
 obtain ⟨y0, y1, y2, y3, y4⟩ := Kn.own5 b1
 obtain ⟨v0, v1, v2, v3, v4⟩ := Kn.own5 b2
 have z0 := b2.frozen 0
 have z1 := b2.frozen 1
 have z2 := b2.frozen 2
 have z3 := b2.frozen 3
 have z4 := b2.frozen 4
 clear b1 b2 b3 hdr
 go_wp2
 have HEND := hH (Duo.subF ((HD3.out.call 0 rfl (own_set5 (HD3.out.box (x := (fo, [.int .i64 0, .int .i64 0, .int .i64 0, .int .i64 0, .int .i64 0])) (by simp)) (.int .i64 qj.s) (.int .i64 qj.o) (.int .i64 qj.l) (.int .i64 qj.p) (.int .i64 qj.m)) (only_set5 _ fo _ _ _ _ _)).ldrop.ldrop.ldrop) (F' := c.F) (fun f hf => by simp [hf]))
 (try simp only [Exit.inBlock, Exit.then])
 refine bodyPost_ret (v := .tuple #[.agg #[.int .i64 qj.s, .int .i64 qj.o, .int .i64 qj.l, .int .i64 qj.p, .int .i64 qj.m], .bool true]) ?_ rfl ?_
 ·simp only [results, HRES.out]
  go_simp
 rw [← HRUN.out, HFIN.out]
 exact ⟨rfl, HEND.out⟩
end Go.Proofs.YtgcfdjcpcclcjaaGreat
namespace Go.Kn
open Go Go.RowKit
theorem decHead_nil : decHead [] = none := by
 unfold decHead decBy
 rw [if_neg]
 intro h
 unfold encHead at h
 split at h
 ·injection h with h
  have := congrArg List.length h
  rw [sealed_length _ (headRow_length _)] at this
  simp at this
 cases h
theorem scanB_no {d : Dk} {c : Cf} {own : Bool} {p : Ps} (h : ¬ ((0 ≤ p.s ∧ p.s ≤ c.s - 1) ∧ 0 ≤ p.o ∧ p.o < c.l)) : scanB d c own p = (p, false, 0) := if_neg h
theorem scanB_off {d : Dk} {c : Cf} {own : Bool} {p : Ps} (h : (0 ≤ p.s ∧ p.s ≤ c.s - 1) ∧ 0 ≤ p.o ∧ p.o < c.l) (h0 : 0 < p.o) : scanB d c own p = (p, true, 0) := by unfold scanB; rw [if_pos h, if_pos h0]
theorem scanB_err {d : Dk} {c : Cf} {own : Bool} {p : Ps} (h : (0 ≤ p.s ∧ p.s ≤ c.s - 1) ∧ 0 ≤ p.o ∧ p.o < c.l) (h0 : ¬ 0 < p.o) (he : d.err (c.at_ p.s) ≠ 0) : scanB d c own p = (p, false, d.err (c.at_ p.s)) := by unfold scanB; rw [if_pos h, if_neg h0, if_neg he]
theorem scanB_none {d : Dk} {c : Cf} {own : Bool} {p : Ps} (h : (0 ≤ p.s ∧ p.s ≤ c.s - 1) ∧ 0 ≤ p.o ∧ p.o < c.l) (h0 : ¬ 0 < p.o) (he : d.err (c.at_ p.s) = 0) (hd : decHead (d.read (c.at_ p.s)) = none) : scanB d c own p = (p, false, 0) := by unfold scanB; rw [if_pos h, if_neg h0, if_pos he, hd]
theorem scanB_some {d : Dk} {c : Cf} {own : Bool} {p : Ps} {x : It} (h : (0 ≤ p.s ∧ p.s ≤ c.s - 1) ∧ 0 ≤ p.o ∧ p.o < c.l) (h0 : ¬ 0 < p.o) (he : d.err (c.at_ p.s) = 0) (hd : decHead (d.read (c.at_ p.s)) = some x) : scanB d c own p = if (own || headFits (some x) p.s p.l p.p p.m) = true then (⟨p.s, 1, x.c, x.v, x.b⟩, true, 0) else (p, false, 0) := by unfold scanB; rw [if_pos h, if_neg h0, if_pos he, hd]
end Go.Kn
namespace Go.Proofs.YtgcfdjcpcclcjaaGreat
open Go Go.RowKit Go.Kn
theorem field_cfg2 (b s l : Int) (w : World) : (Instr.field 25 (.agg #[.int .i64 b, .int .i64 s, .int .i64 l]) 2).run Tryz.prog w = .ok (.int .i64 l) w := by kernel_rfl
def BegSays (w0 wb : World) (S D gb : Nat) (pp : Ps) (own : Bool) (e : Ps) (L : List (Nat × List Value)) (G : List Gs) (F : List (World → Prop)) (x : Ps × Bool × Int) (en : Ending) (w' : World) : Prop :=
 en = .returned (.tuple #[.agg #[.int .i64 x.1.s, .int .i64 x.1.o, .int .i64 x.1.l, .int .i64 x.1.p, .int .i64 x.1.m], .bool x.2.1]) ∧ Wk w0 wb w' ((S, SB D gb pp own e x.2.2) :: L) G F
theorem scan_begin_any {wb : World} (w0 w : World) (S gb : Nat) (pd : PD) (d : Dk) (cf : Cf) (p : Ps) (own : Bool) (e : Ps) (er : Int) (L : List (Nat × List Value)) (G : List Gs) (F : List (World → Prop))
  (hw : Wk w0 wb w ((S, SB pd.D gb p own e er) :: L) G F) (hd : DkIn pd d L) (hg : (fun W => GeoAt W gb cf.b cf.s cf.l) ∈ F) (hc : cf.Ok) :
  Calls Tryz.prog 152 #[.pointer (some ⟨S, 0, none⟩)] w (BegSays w0 wb S pd.D gb p own e L G F (scanB d cf own p)) := by
 have hres : Tryz.f152.results = #[.cell 2 32, .tmp 3] := by kernel_rfl
 have HRES := hH hres
 have HG := hH hg
 have HC := hH hc
 have HDK := hH hd
 have hw2 : Wk w0 wb ((w.setCell ⟨S, 13, none⟩ (.int .i64 0)).alloc (.cells #[.int .i64 p.s, .int .i64 p.o, .int .i64 p.l, .int .i64 p.p, .int .i64 p.m] 32)) ((S, SB pd.D gb p own e 0) :: (w.heap.size, [.int .i64 p.s, .int .i64 p.o, .int .i64 p.l, .int .i64 p.p, .int .i64 p.m]) :: L) G F := ((hw.put 0 (p := S) rfl 13 (.int .i64 0)).newB #[.int .i64 p.s, .int .i64 p.o, .int .i64 p.l, .int .i64 p.p, .int .i64 p.m] 32 (by simp)).perm (List.Perm.swap _ _ _) (List.Perm.refl _)
 have HW := hH hw2
 have hb := hw.boxi 0 rfl
 have c1 := hb.cell 1 (by simp [SB])
 have c2 := hb.cell 2 (by simp [SB])
 have c3 := hb.cell 3 (by simp [SB])
 have c4 := hb.cell 4 (by simp [SB])
 have c5 := hb.cell 5 (by simp [SB])
 have c6 := hb.cell 6 (by simp [SB])
 have c13 := hb.cell 13 (by simp [SB])
 simp only [SB, g0, gs] at c1 c2 c3 c4 c5 c6 c13
 have f13 := hb.frozen 13
 have hlt := hb.lt
 clear hres hg hc hd hw hw2 hb
 go_enter Tryz.func152, Tryz.ntmps152
 go_wp2_with fail
 generalize (w.setCell ⟨S, 13, none⟩ (.int .i64 0)).alloc (.cells #[.int .i64 p.s, .int .i64 p.o, .int .i64 p.l, .int .i64 p.p, .int .i64 p.m] 32) = w1 at *
 generalize w.heap.size = fb at *
 have hfl := field_cfg2 cf.b cf.s cf.l
 have HX7 := hH HW.out.drew
 refine wp_region_held_drew (S := fun w' => Kn.Own w' fb [.int .i64 p.s, .int .i64 p.o, .int .i64 p.l, .int .i64 p.p, .int .i64 p.m] ∧ w'.cell? ⟨S, 1, none⟩ = some (.pointer (some ⟨gb, 0, none⟩))) (by kernel_rfl) ⟨HX7.out.boxi 1 rfl, by simpa [SB] using (HX7.out.boxi 0 (p := S) rfl).cell 1 (by simp [SB])⟩ (fun hSw7 => ?_)
 generalize w1.drew = v7 at *
 clear HW c1 c2 c3 c4 c5 c6 c13 f13 hlt
 by_cases hk0 : 0 ≤ p.s ∧ p.s ≤ cf.s - 1
 ·by_cases ho1 : p.o < 0
  ·refine tS 0 14 (hy := fun w hSw => by
    (try dsimp only at hSw); have q0 := hSw.1.cell 0 (by simp); have q1 := hSw.1.cell 1 (by simp); have q2 := hSw.2; simp only [g0, gs] at q0 q1
    go_simp
    all_goals (try with_reducible rfl)) ?_
   refine tS 1 15 (hy := fun w hSw => by
    (try dsimp only at hSw); have q0 := hSw.1.cell 0 (by simp); have q1 := hSw.1.cell 1 (by simp); have q2 := hSw.2; simp only [g0, gs] at q0 q1
    go_simp
    all_goals (try with_reducible rfl)) ?_
   refine tS 2 16 (hy := fun w hSw => by
    (try dsimp only at hSw); have q0 := hSw.1.cell 0 (by simp); have q1 := hSw.1.cell 1 (by simp); have q2 := hSw.2; simp only [g0, gs] at q0 q1
    go_simp
    all_goals (try with_reducible rfl)) ?_
   refine tS 3 17 (hy := fun w hSw => by
    (try dsimp only at hSw); have q0 := hSw.1.cell 0 (by simp); have q1 := hSw.1.cell 1 (by simp); have q2 := hSw.2; simp only [g0, gs] at q0 q1
    go_simp
    all_goals (try with_reducible rfl)) ?_
   refine tS 4 18 (hy := fun w hSw => by
    (try dsimp only at hSw); have q0 := hSw.1.cell 0 (by simp); have q1 := hSw.1.cell 1 (by simp); have q2 := hSw.2; simp only [g0, gs] at q0 q1
    go_simp
    all_goals (try with_reducible rfl)) ?_
   refine tS 5 19 (hy := fun w hSw => by
    (try dsimp only at hSw); have q0 := hSw.1.cell 0 (by simp); have q1 := hSw.1.cell 1 (by simp); have q2 := hSw.2; simp only [g0, gs] at q0 q1
    go_simp
    all_goals (try with_reducible rfl)) ?_
   refine tR 6 20 fun K hK => ?_
   go_simp
   refine (geom_has_any gb cf.b cf.s cf.l p.s _ (HX7.out.fact (fun W => GeoAt W gb cf.b cf.s cf.l) HG.out) HC.out).mono ?_
   rintro en vx ⟨rfl, rfl⟩
   rw [decide_eq_true hk0]
   have HX8 := hH HX7.out
   clear HX7
   refine hK.out _ _ ⟨HX8.out.boxi 1 rfl, by simpa [SB] using (HX8.out.boxi 0 (p := S) rfl).cell 1 (by simp [SB])⟩ (fun hSw8 => ?_)
   clear hK K
   clear hSw7
   refine tS 7 21 (hy := fun w hSw => by
    (try dsimp only at hSw); have q0 := hSw.1.cell 0 (by simp); have q1 := hSw.1.cell 1 (by simp); have q2 := hSw.2; simp only [g0, gs] at q0 q1
    go_simp
    all_goals (try with_reducible rfl)) ?_
   refine tS 8 22 (hy := fun w hSw => by
    (try dsimp only at hSw); have q0 := hSw.1.cell 0 (by simp); have q1 := hSw.1.cell 1 (by simp); have q2 := hSw.2; simp only [g0, gs] at q0 q1
    go_simp
    all_goals (try with_reducible rfl)) ?_
   refine tS 9 23 (hy := fun w hSw => by
    (try dsimp only at hSw); have q0 := hSw.1.cell 0 (by simp); have q1 := hSw.1.cell 1 (by simp); have q2 := hSw.2; simp only [g0, gs] at q0 q1
    go_simp
    all_goals (try with_reducible rfl)) ?_
   refine tS 10 24 (hy := fun w hSw => by
    (try dsimp only at hSw); have q0 := hSw.1.cell 0 (by simp); have q1 := hSw.1.cell 1 (by simp); have q2 := hSw.2; simp only [g0, gs] at q0 q1
    go_simp
    all_goals (try with_reducible rfl)) ?_
   refine tS 11 25 (hy := fun w hSw => by
    (try dsimp only at hSw); have q0 := hSw.1.cell 0 (by simp); have q1 := hSw.1.cell 1 (by simp); have q2 := hSw.2; simp only [g0, gs] at q0 q1
    go_simp
    all_goals (try with_reducible rfl)) ?_
   refine tS 12 26 (hy := fun w hSw => by
    (try dsimp only at hSw); have q0 := hSw.1.cell 0 (by simp); have q1 := hSw.1.cell 1 (by simp); have q2 := hSw.2; simp only [g0, gs] at q0 q1
    go_simp
    all_goals (try with_reducible rfl)) ?_
   refine tS 13 27 (hy := fun w hSw => by
    (try dsimp only at hSw); have q0 := hSw.1.cell 0 (by simp); have q1 := hSw.1.cell 1 (by simp); have q2 := hSw.2; simp only [g0, gs] at q0 q1
    go_simp
    all_goals (try with_reducible rfl)) ?_
   refine tN 14 28 ?_
   refine tN 15 29 ?_
   refine tN 16 30 ?_
   refine tN 17 31 ?_
   refine tN 18 32 ?_
   refine tN 19 33 ?_
   refine tN 20 34 ?_
   refine tN 21 35 ?_
   refine tN 22 36 ?_
   refine tS 23 37 (hy := fun w hSw => by
    (try dsimp only at hSw); have q0 := hSw.1.cell 0 (by simp); have q1 := hSw.1.cell 1 (by simp); have q2 := hSw.2; simp only [g0, gs] at q0 q1
    go_simp
    all_goals (try with_reducible rfl)) ?_
   refine tD ?_ _
   clear hSw8
   have HSB := hH (scanB_no (d := d) (c := cf) (own := own) (p := p) (by omega))
   have bz := HX8.out.boxi 1 rfl
   obtain ⟨y0, y1, y2, y3, y4⟩ := Kn.own5 bz
   have z0 := bz.frozen 0
   have z1 := bz.frozen 1
   have z2 := bz.frozen 2
   have z3 := bz.frozen 3
   have z4 := bz.frozen 4
   have HEND := hH ((HX8.out.call1 1 rfl (own_set5 bz (.int .i64 p.s) (.int .i64 p.o) (.int .i64 p.l) (.int .i64 p.p) (.int .i64 p.m)) (only_set5 _ fb _ _ _ _ _)).sub (L' := (S, SB pd.D gb p own e 0) :: L) (F' := F) (by simp) (by intro f hf; simp [hf]))
   clear bz HX8
   go_wp2
   (try simp only [Exit.inBlock, Exit.then])
   refine bodyPost_ret (v := .tuple #[.agg #[.int .i64 p.s, .int .i64 p.o, .int .i64 p.l, .int .i64 p.p, .int .i64 p.m], .bool false]) ?_ rfl ?_
   ·simp only [results, HRES.out]
    go_simp
   rw [HSB.out]
   exact ⟨rfl, HEND.out⟩
  by_cases ho2 : cf.l ≤ p.o
  ·have ho3 : p.o ≥ cf.l := ho2
   refine tS 0 14 (hy := fun w hSw => by
    (try dsimp only at hSw); have q0 := hSw.1.cell 0 (by simp); have q1 := hSw.1.cell 1 (by simp); have q2 := hSw.2; simp only [g0, gs] at q0 q1
    go_simp
    all_goals (try with_reducible rfl)) ?_
   refine tS 1 15 (hy := fun w hSw => by
    (try dsimp only at hSw); have q0 := hSw.1.cell 0 (by simp); have q1 := hSw.1.cell 1 (by simp); have q2 := hSw.2; simp only [g0, gs] at q0 q1
    go_simp
    all_goals (try with_reducible rfl)) ?_
   refine tS 2 16 (hy := fun w hSw => by
    (try dsimp only at hSw); have q0 := hSw.1.cell 0 (by simp); have q1 := hSw.1.cell 1 (by simp); have q2 := hSw.2; simp only [g0, gs] at q0 q1
    go_simp
    all_goals (try with_reducible rfl)) ?_
   refine tS 3 17 (hy := fun w hSw => by
    (try dsimp only at hSw); have q0 := hSw.1.cell 0 (by simp); have q1 := hSw.1.cell 1 (by simp); have q2 := hSw.2; simp only [g0, gs] at q0 q1
    go_simp
    all_goals (try with_reducible rfl)) ?_
   refine tS 4 18 (hy := fun w hSw => by
    (try dsimp only at hSw); have q0 := hSw.1.cell 0 (by simp); have q1 := hSw.1.cell 1 (by simp); have q2 := hSw.2; simp only [g0, gs] at q0 q1
    go_simp
    all_goals (try with_reducible rfl)) ?_
   refine tS 5 19 (hy := fun w hSw => by
    (try dsimp only at hSw); have q0 := hSw.1.cell 0 (by simp); have q1 := hSw.1.cell 1 (by simp); have q2 := hSw.2; simp only [g0, gs] at q0 q1
    go_simp
    all_goals (try with_reducible rfl)) ?_
   refine tR 6 20 fun K hK => ?_
   go_simp
   refine (geom_has_any gb cf.b cf.s cf.l p.s _ (HX7.out.fact (fun W => GeoAt W gb cf.b cf.s cf.l) HG.out) HC.out).mono ?_
   rintro en vx ⟨rfl, rfl⟩
   rw [decide_eq_true hk0]
   have HX8 := hH HX7.out
   clear HX7
   refine hK.out _ _ ⟨HX8.out.boxi 1 rfl, by simpa [SB] using (HX8.out.boxi 0 (p := S) rfl).cell 1 (by simp [SB])⟩ (fun hSw8 => ?_)
   clear hK K
   clear hSw7
   refine tS 7 21 (hy := fun w hSw => by
    (try dsimp only at hSw); have q0 := hSw.1.cell 0 (by simp); have q1 := hSw.1.cell 1 (by simp); have q2 := hSw.2; simp only [g0, gs] at q0 q1
    go_simp
    all_goals (try with_reducible rfl)) ?_
   refine tS 8 22 (hy := fun w hSw => by
    (try dsimp only at hSw); have q0 := hSw.1.cell 0 (by simp); have q1 := hSw.1.cell 1 (by simp); have q2 := hSw.2; simp only [g0, gs] at q0 q1
    go_simp
    all_goals (try with_reducible rfl)) ?_
   refine tS 9 23 (hy := fun w hSw => by
    (try dsimp only at hSw); have q0 := hSw.1.cell 0 (by simp); have q1 := hSw.1.cell 1 (by simp); have q2 := hSw.2; simp only [g0, gs] at q0 q1
    go_simp
    all_goals (try with_reducible rfl)) ?_
   refine tS 10 24 (hy := fun w hSw => by
    (try dsimp only at hSw); have q0 := hSw.1.cell 0 (by simp); have q1 := hSw.1.cell 1 (by simp); have q2 := hSw.2; simp only [g0, gs] at q0 q1
    go_simp
    all_goals (try with_reducible rfl)) ?_
   refine tS 11 25 (hy := fun w hSw => by
    (try dsimp only at hSw); have q0 := hSw.1.cell 0 (by simp); have q1 := hSw.1.cell 1 (by simp); have q2 := hSw.2; simp only [g0, gs] at q0 q1
    go_simp
    all_goals (try with_reducible rfl)) ?_
   refine tS 12 26 (hy := fun w hSw => by
    (try dsimp only at hSw); have q0 := hSw.1.cell 0 (by simp); have q1 := hSw.1.cell 1 (by simp); have q2 := hSw.2; simp only [g0, gs] at q0 q1
    go_simp
    all_goals (try with_reducible rfl)) ?_
   refine tS 13 27 (hy := fun w hSw => by
    (try dsimp only at hSw); have q0 := hSw.1.cell 0 (by simp); have q1 := hSw.1.cell 1 (by simp); have q2 := hSw.2; simp only [g0, gs] at q0 q1
    go_simp
    all_goals (try with_reducible rfl)) ?_
   refine tS 14 28 (hy := fun w hSw => by
    (try dsimp only at hSw); have q0 := hSw.1.cell 0 (by simp); have q1 := hSw.1.cell 1 (by simp); have q2 := hSw.2; simp only [g0, gs] at q0 q1
    go_simp
    all_goals (try with_reducible rfl)) ?_
   refine tS 15 29 (hy := fun w hSw => by
    (try dsimp only at hSw); have q0 := hSw.1.cell 0 (by simp); have q1 := hSw.1.cell 1 (by simp); have q2 := hSw.2; simp only [g0, gs] at q0 q1
    go_simp
    all_goals (try with_reducible rfl)) ?_
   refine tS 16 30 (hy := fun w hSw => by
    (try dsimp only at hSw); have q0 := hSw.1.cell 0 (by simp); have q1 := hSw.1.cell 1 (by simp); have q2 := hSw.2; simp only [g0, gs] at q0 q1
    go_simp
    all_goals (try with_reducible rfl)) ?_
   refine tS 17 31 (hy := fun w hSw => by
    (try dsimp only at hSw); have q0 := hSw.1.cell 0 (by simp); have q1 := hSw.1.cell 1 (by simp); have q2 := hSw.2; simp only [g0, gs] at q0 q1
    go_simp
    all_goals (try with_reducible rfl)) ?_
   refine tS 18 32 (hy := fun w hSw => by
    (try dsimp only at hSw); have q0 := hSw.1.cell 0 (by simp); have q1 := hSw.1.cell 1 (by simp); have q2 := hSw.2; simp only [g0, gs] at q0 q1
    go_simp
    all_goals (try with_reducible rfl)) ?_
   refine tS 19 33 (hy := fun w hSw => by
    (try dsimp only at hSw); have q0 := hSw.1.cell 0 (by simp); have q1 := hSw.1.cell 1 (by simp); have q2 := hSw.2; simp only [g0, gs] at q0 q1
    go_simp
    all_goals (try with_reducible rfl)) ?_
   refine tR 20 34 fun K hK => ?_
   go_simp
   refine (geom_config_any gb cf.b cf.s cf.l _ (HX8.out.fact (fun W => GeoAt W gb cf.b cf.s cf.l) HG.out)).mono ?_
   rintro en v9 ⟨rfl, hO⟩
   have HX9 := hH (HX8.out.keep0 hO)
   clear hO HX8
   refine hK.out _ _ ⟨HX9.out.boxi 1 rfl, by simpa [SB] using (HX9.out.boxi 0 (p := S) rfl).cell 1 (by simp [SB])⟩ (fun hSw9 => ?_)
   clear hK K
   clear hSw8
   refine tS 21 35 (hy := fun w hSw => by
    (try dsimp only at hSw); have q0 := hSw.1.cell 0 (by simp); have q1 := hSw.1.cell 1 (by simp); have q2 := hSw.2; simp only [g0, gs] at q0 q1
    go_simp
    all_goals (try with_reducible rfl)) ?_
   refine tS 22 36 (hy := fun w hSw => by
    (try dsimp only at hSw); have q0 := hSw.1.cell 0 (by simp); have q1 := hSw.1.cell 1 (by simp); have q2 := hSw.2; simp only [g0, gs] at q0 q1
    go_simp
    all_goals (try with_reducible rfl)) ?_
   refine tS 23 37 (hy := fun w hSw => by
    (try dsimp only at hSw); have q0 := hSw.1.cell 0 (by simp); have q1 := hSw.1.cell 1 (by simp); have q2 := hSw.2; simp only [g0, gs] at q0 q1
    go_simp
    all_goals (try with_reducible rfl)) ?_
   refine tD ?_ _
   clear hSw9
   have HSB := hH (scanB_no (d := d) (c := cf) (own := own) (p := p) (by omega))
   have bz := HX9.out.boxi 1 rfl
   obtain ⟨y0, y1, y2, y3, y4⟩ := Kn.own5 bz
   have z0 := bz.frozen 0
   have z1 := bz.frozen 1
   have z2 := bz.frozen 2
   have z3 := bz.frozen 3
   have z4 := bz.frozen 4
   have HEND := hH ((HX9.out.call1 1 rfl (own_set5 bz (.int .i64 p.s) (.int .i64 p.o) (.int .i64 p.l) (.int .i64 p.p) (.int .i64 p.m)) (only_set5 _ fb _ _ _ _ _)).sub (L' := (S, SB pd.D gb p own e 0) :: L) (F' := F) (by simp) (by intro f hf; simp [hf]))
   clear bz HX9
   go_wp2
   (try simp only [Exit.inBlock, Exit.then])
   refine bodyPost_ret (v := .tuple #[.agg #[.int .i64 p.s, .int .i64 p.o, .int .i64 p.l, .int .i64 p.p, .int .i64 p.m], .bool false]) ?_ rfl ?_
   ·simp only [results, HRES.out]
    go_simp
   rw [HSB.out]
   exact ⟨rfl, HEND.out⟩
  refine tS 0 14 (hy := fun w hSw => by
   (try dsimp only at hSw); have q0 := hSw.1.cell 0 (by simp); have q1 := hSw.1.cell 1 (by simp); have q2 := hSw.2; simp only [g0, gs] at q0 q1
   go_simp
   all_goals (try with_reducible rfl)) ?_
  refine tS 1 15 (hy := fun w hSw => by
   (try dsimp only at hSw); have q0 := hSw.1.cell 0 (by simp); have q1 := hSw.1.cell 1 (by simp); have q2 := hSw.2; simp only [g0, gs] at q0 q1
   go_simp
   all_goals (try with_reducible rfl)) ?_
  refine tS 2 16 (hy := fun w hSw => by
   (try dsimp only at hSw); have q0 := hSw.1.cell 0 (by simp); have q1 := hSw.1.cell 1 (by simp); have q2 := hSw.2; simp only [g0, gs] at q0 q1
   go_simp
   all_goals (try with_reducible rfl)) ?_
  refine tS 3 17 (hy := fun w hSw => by
   (try dsimp only at hSw); have q0 := hSw.1.cell 0 (by simp); have q1 := hSw.1.cell 1 (by simp); have q2 := hSw.2; simp only [g0, gs] at q0 q1
   go_simp
   all_goals (try with_reducible rfl)) ?_
  refine tS 4 18 (hy := fun w hSw => by
   (try dsimp only at hSw); have q0 := hSw.1.cell 0 (by simp); have q1 := hSw.1.cell 1 (by simp); have q2 := hSw.2; simp only [g0, gs] at q0 q1
   go_simp
   all_goals (try with_reducible rfl)) ?_
  refine tS 5 19 (hy := fun w hSw => by
   (try dsimp only at hSw); have q0 := hSw.1.cell 0 (by simp); have q1 := hSw.1.cell 1 (by simp); have q2 := hSw.2; simp only [g0, gs] at q0 q1
   go_simp
   all_goals (try with_reducible rfl)) ?_
  refine tR 6 20 fun K hK => ?_
  go_simp
  refine (geom_has_any gb cf.b cf.s cf.l p.s _ (HX7.out.fact (fun W => GeoAt W gb cf.b cf.s cf.l) HG.out) HC.out).mono ?_
  rintro en vx ⟨rfl, rfl⟩
  rw [decide_eq_true hk0]
  have HX8 := hH HX7.out
  clear HX7
  refine hK.out _ _ ⟨HX8.out.boxi 1 rfl, by simpa [SB] using (HX8.out.boxi 0 (p := S) rfl).cell 1 (by simp [SB])⟩ (fun hSw8 => ?_)
  clear hK K
  clear hSw7
  refine tS 7 21 (hy := fun w hSw => by
   (try dsimp only at hSw); have q0 := hSw.1.cell 0 (by simp); have q1 := hSw.1.cell 1 (by simp); have q2 := hSw.2; simp only [g0, gs] at q0 q1
   go_simp
   all_goals (try with_reducible rfl)) ?_
  refine tS 8 22 (hy := fun w hSw => by
   (try dsimp only at hSw); have q0 := hSw.1.cell 0 (by simp); have q1 := hSw.1.cell 1 (by simp); have q2 := hSw.2; simp only [g0, gs] at q0 q1
   go_simp
   all_goals (try with_reducible rfl)) ?_
  refine tS 9 23 (hy := fun w hSw => by
   (try dsimp only at hSw); have q0 := hSw.1.cell 0 (by simp); have q1 := hSw.1.cell 1 (by simp); have q2 := hSw.2; simp only [g0, gs] at q0 q1
   go_simp
   all_goals (try with_reducible rfl)) ?_
  refine tS 10 24 (hy := fun w hSw => by
   (try dsimp only at hSw); have q0 := hSw.1.cell 0 (by simp); have q1 := hSw.1.cell 1 (by simp); have q2 := hSw.2; simp only [g0, gs] at q0 q1
   go_simp
   all_goals (try with_reducible rfl)) ?_
  refine tS 11 25 (hy := fun w hSw => by
   (try dsimp only at hSw); have q0 := hSw.1.cell 0 (by simp); have q1 := hSw.1.cell 1 (by simp); have q2 := hSw.2; simp only [g0, gs] at q0 q1
   go_simp
   all_goals (try with_reducible rfl)) ?_
  refine tS 12 26 (hy := fun w hSw => by
   (try dsimp only at hSw); have q0 := hSw.1.cell 0 (by simp); have q1 := hSw.1.cell 1 (by simp); have q2 := hSw.2; simp only [g0, gs] at q0 q1
   go_simp
   all_goals (try with_reducible rfl)) ?_
  refine tS 13 27 (hy := fun w hSw => by
   (try dsimp only at hSw); have q0 := hSw.1.cell 0 (by simp); have q1 := hSw.1.cell 1 (by simp); have q2 := hSw.2; simp only [g0, gs] at q0 q1
   go_simp
   all_goals (try with_reducible rfl)) ?_
  refine tS 14 28 (hy := fun w hSw => by
   (try dsimp only at hSw); have q0 := hSw.1.cell 0 (by simp); have q1 := hSw.1.cell 1 (by simp); have q2 := hSw.2; simp only [g0, gs] at q0 q1
   go_simp
   all_goals (try with_reducible rfl)) ?_
  refine tS 15 29 (hy := fun w hSw => by
   (try dsimp only at hSw); have q0 := hSw.1.cell 0 (by simp); have q1 := hSw.1.cell 1 (by simp); have q2 := hSw.2; simp only [g0, gs] at q0 q1
   go_simp
   all_goals (try with_reducible rfl)) ?_
  refine tS 16 30 (hy := fun w hSw => by
   (try dsimp only at hSw); have q0 := hSw.1.cell 0 (by simp); have q1 := hSw.1.cell 1 (by simp); have q2 := hSw.2; simp only [g0, gs] at q0 q1
   go_simp
   all_goals (try with_reducible rfl)) ?_
  refine tS 17 31 (hy := fun w hSw => by
   (try dsimp only at hSw); have q0 := hSw.1.cell 0 (by simp); have q1 := hSw.1.cell 1 (by simp); have q2 := hSw.2; simp only [g0, gs] at q0 q1
   go_simp
   all_goals (try with_reducible rfl)) ?_
  refine tS 18 32 (hy := fun w hSw => by
   (try dsimp only at hSw); have q0 := hSw.1.cell 0 (by simp); have q1 := hSw.1.cell 1 (by simp); have q2 := hSw.2; simp only [g0, gs] at q0 q1
   go_simp
   all_goals (try with_reducible rfl)) ?_
  refine tS 19 33 (hy := fun w hSw => by
   (try dsimp only at hSw); have q0 := hSw.1.cell 0 (by simp); have q1 := hSw.1.cell 1 (by simp); have q2 := hSw.2; simp only [g0, gs] at q0 q1
   go_simp
   all_goals (try with_reducible rfl)) ?_
  refine tR 20 34 fun K hK => ?_
  go_simp
  refine (geom_config_any gb cf.b cf.s cf.l _ (HX8.out.fact (fun W => GeoAt W gb cf.b cf.s cf.l) HG.out)).mono ?_
  rintro en v9 ⟨rfl, hO⟩
  have HX9 := hH (HX8.out.keep0 hO)
  clear hO HX8
  refine hK.out _ _ ⟨HX9.out.boxi 1 rfl, by simpa [SB] using (HX9.out.boxi 0 (p := S) rfl).cell 1 (by simp [SB])⟩ (fun hSw9 => ?_)
  clear hK K
  clear hSw8
  refine tS 21 35 (hy := fun w hSw => by
   (try dsimp only at hSw); have q0 := hSw.1.cell 0 (by simp); have q1 := hSw.1.cell 1 (by simp); have q2 := hSw.2; simp only [g0, gs] at q0 q1
   go_simp
   all_goals (try with_reducible rfl)) ?_
  refine tS 22 36 (hy := fun w hSw => by
   (try dsimp only at hSw); have q0 := hSw.1.cell 0 (by simp); have q1 := hSw.1.cell 1 (by simp); have q2 := hSw.2; simp only [g0, gs] at q0 q1
   go_simp
   all_goals (try with_reducible rfl)) ?_
  refine tS 23 37 (hy := fun w hSw => by
   (try dsimp only at hSw); have q0 := hSw.1.cell 0 (by simp); have q1 := hSw.1.cell 1 (by simp); have q2 := hSw.2; simp only [g0, gs] at q0 q1
   go_simp
   all_goals (try with_reducible rfl)) ?_
  refine tD ?_ _
  clear hSw9
  by_cases h0 : 0 < p.o
  ·have HSB := hH (scanB_off (d := d) (c := cf) (own := own) (p := p) ⟨hk0, by omega, by omega⟩ h0)
   have bz := HX9.out.boxi 1 rfl
   obtain ⟨y0, y1, y2, y3, y4⟩ := Kn.own5 bz
   have z0 := bz.frozen 0
   have z1 := bz.frozen 1
   have z2 := bz.frozen 2
   have z3 := bz.frozen 3
   have z4 := bz.frozen 4
   have HEND := hH ((HX9.out.call1 1 rfl (own_set5 bz (.int .i64 p.s) (.int .i64 p.o) (.int .i64 p.l) (.int .i64 p.p) (.int .i64 p.m)) (only_set5 _ fb _ _ _ _ _)).sub (L' := (S, SB pd.D gb p own e 0) :: L) (F' := F) (by simp) (by intro f hf; simp [hf]))
   clear bz HX9
   go_wp2
   (try simp only [Exit.inBlock, Exit.then])
   refine bodyPost_ret (v := .tuple #[.agg #[.int .i64 p.s, .int .i64 p.o, .int .i64 p.l, .int .i64 p.p, .int .i64 p.m], .bool true]) ?_ rfl ?_
   ·simp only [results, HRES.out]
    go_simp
   rw [HSB.out]
   exact ⟨rfl, HEND.out⟩
  have q1 := (HX9.out.boxi 1 rfl).cell 1 (by simp)
  simp only [g0, gs] at q1
  go_wp2_with fail
  clear q1
  have HY0 := hH HX9.out.drew
  clear HX9
  refine wp_region_held_drew (S := fun w' => Kn.Own w' fb [.int .i64 p.s, .int .i64 p.o, .int .i64 p.l, .int .i64 p.p, .int .i64 p.m] ∧ w'.cell? ⟨S, 1, none⟩ = some (.pointer (some ⟨gb, 0, none⟩))) (by kernel_rfl) ⟨HY0.out.boxi 1 rfl, by simpa [SB] using (HY0.out.boxi 0 (p := S) rfl).cell 1 (by simp [SB])⟩ (fun hSw0 => ?_)
  generalize v9.drew = u0 at *
  refine tS 0 44 ?_
  refine tS 1 45 ?_
  refine tS 2 46 ?_
  refine tS 3 47 ?_
  refine tS 4 48 ?_
  refine tS 5 49 ?_
  refine tS 6 50 (v := (.int .i64 p.s)) (hy := fun w hSw => by
   have q0 := Kn.own1 hSw.1
   go_simp) ?_
  refine tR 7 51 fun K hK => ?_
  go_simp
  refine (geom_seg_any gb cf p.s _ (HY0.out.fact (fun W => GeoAt W gb cf.b cf.s cf.l) HG.out) HC.out).mono ?_
  rintro en u1 ⟨rfl, hO⟩
  have HY1 := hH (HY0.out.keep0 hO)
  clear hO HY0
  refine hK.out _ _ ⟨HY1.out.boxi 1 rfl, by simpa [SB] using (HY1.out.boxi 0 (p := S) rfl).cell 1 (by simp [SB])⟩ (fun hSn => ?_)
  clear hK K hSw0
  have hSw0 := hSn
  clear hSn
  refine tR 8 52 fun K hK => ?_
  go_simp
  refine (scan_read_any w0 _ S gb pd d p own e 0 _ G F (cf.at_ p.s) HY1.out (HDK.out.mono (fun x hx => mc _ hx))).mono ?_
  rintro en u2 ⟨A, n, cc, rfl, hrd⟩
  have HY2 := hH hrd
  clear hrd HY1
  refine hK.out _ _ ⟨HY2.out.boxi 1 rfl, by simpa [SB] using (HY2.out.boxi 0 (p := S) rfl).cell 1 (by simp [SB])⟩ (fun hSn => ?_)
  clear hK K hSw0
  have hSw0 := hSn
  clear hSn
  refine tS 9 43 ?_
  refine tS 10 53 ?_
  refine tS 11 54 ?_
  refine tS 12 4 ?_
  refine tS 13 3 ?_
  refine tD ?_ _
  clear hSw0
  have hby := HY2.out.fact (fun W => Bys W A n cc (d.read (cf.at_ p.s))) List.mem_cons_self
  have hnl := hby.len
  rw [bvs_length] at hnl
  have hn64 : n ≤ 65536 := by rw [← hnl, Dk.read_len HDK.out.ok]; split <;> omega
  have HBY := hH hby
  clear hby hnl
  obtain ⟨z, hz⟩ : ∃ z, d.err (cf.at_ p.s) = z := ⟨_, rfl⟩
  rw [hz] at HY2 ⊢
  have HZ := hH hz
  have hre : z ≠ 0 → d.read (cf.at_ p.s) = [] := fun h => by unfold Dk.read; rw [if_neg (by rw [hz]; exact h)]
  clear hz
  go_wp2_with fail
  refine (head_dec_any A n cc _ _ HBY.out hn64).mono ?_
  rintro en u3 ⟨rfl, hO⟩
  by_cases hz0 : z = 0
  ·subst hz0
   cases hdh : decHead (d.read (cf.at_ p.s)) with
   | none =>
    have HDH := hH hdh
    have HY3 := hH ((HY2.out.keep0 hO).alloc (.cells #[.int .i64 0, .int .i64 0, .int .i64 0, .int .i64 0] 143))
    clear hO HY2 HBY hre hdh
    simp only [Option.getD_none, Option.isSome_none, It.vals]
    have HSB := hH (scanB_none (d := d) (c := cf) (own := own) (p := p) ⟨hk0, by omega, by omega⟩ (by omega) HZ.out HDH.out)
    have bz := HY3.out.boxi 1 rfl
    obtain ⟨y0, y1, y2, y3, y4⟩ := Kn.own5 bz
    have z0 := bz.frozen 0
    have z1 := bz.frozen 1
    have z2 := bz.frozen 2
    have z3 := bz.frozen 3
    have z4 := bz.frozen 4
    have HEND := hH ((HY3.out.call1 1 rfl (own_set5 bz (.int .i64 p.s) (.int .i64 p.o) (.int .i64 p.l) (.int .i64 p.p) (.int .i64 p.m)) (only_set5 _ fb _ _ _ _ _)).sub (L' := (S, SB pd.D gb p own e 0) :: L) (F' := F) (by simp) (by intro f hf; simp [hf]))
    clear bz HY3
    go_wp2
    (try simp only [Exit.inBlock, Exit.then])
    refine bodyPost_ret (v := .tuple #[.agg #[.int .i64 p.s, .int .i64 p.o, .int .i64 p.l, .int .i64 p.p, .int .i64 p.m], .bool false]) ?_ rfl ?_
    ·simp only [results, HRES.out]
     go_simp
    rw [HSB.out]
    exact ⟨rfl, HEND.out⟩
   | some x =>
    obtain ⟨hk, hb, hc, hv⟩ := x
    have HDH := hH hdh
    clear hre hdh
    simp only [Option.getD_some, Option.isSome_some, It.vals]
    have HY3 := hH ((HY2.out.keep0 hO).alloc (.cells #[.int .i64 hk, .int .i64 hb, .int .i64 hc, .int .i64 hv] 143))
    have HBY3 := hH ((HBY.out.keep0 hO).alloc (.cells #[.int .i64 hk, .int .i64 hb, .int .i64 hc, .int .i64 hv] 143))
    have hX := Own.new u3 #[.int .i64 hk, .int .i64 hb, .int .i64 hc, .int .i64 hv] 143
    obtain ⟨x0, x1, x2, x3⟩ := Kn.own4 hX
    have xl := hX.lt
    have bS := (HY3.out.boxi 0 (p := S) rfl).cell 7 (by simp [SB])
    simp only [SB, g0, gs] at bS
    have bp := HY3.out.boxi 1 rfl
    obtain ⟨p0, p1, p2, p3, p4⟩ := Kn.own5 bp
    clear hO HY2 HBY bp hX
    cases own with
    | true =>
     have hoT : (true || headFits (some ⟨hk, hb, hc, hv⟩) p.s p.l p.p p.m) = true := rfl
     clear p0 p1 p2 p3 p4 HBY3
     have HSB := hH ((scanB_some (d := d) (c := cf) (own := true) (p := p) ⟨hk0, by omega, by omega⟩ (by omega) HZ.out HDH.out).trans (by rw [hoT]))
     have bz := HY3.out.boxi 1 rfl
     obtain ⟨y0, y1, y2, y3, y4⟩ := Kn.own5 bz
     have z0 := bz.frozen 0
     have z1 := bz.frozen 1
     have z2 := bz.frozen 2
     have z3 := bz.frozen 3
     have z4 := bz.frozen 4
     have HEND := hH (((HY3.out.call1 1 rfl (own_set5 bz (.int .i64 p.s) (.int .i64 1) (.int .i64 hc) (.int .i64 hv) (.int .i64 hb)) (only_set5 _ fb _ _ _ _ _)).call1 1 rfl (own_set5 (own_set5 bz (.int .i64 p.s) (.int .i64 1) (.int .i64 hc) (.int .i64 hv) (.int .i64 hb)) (.int .i64 p.s) (.int .i64 1) (.int .i64 hc) (.int .i64 hv) (.int .i64 hb)) (only_set5 _ fb _ _ _ _ _)).sub (L' := (S, SB pd.D gb p true e 0) :: L) (F' := F) (by simp) (by intro f hf; simp [hf]))
     have bf := own_set5 (own_set5 bz (.int .i64 p.s) (.int .i64 1) (.int .i64 hc) (.int .i64 hv) (.int .i64 hb)) (.int .i64 p.s) (.int .i64 1) (.int .i64 hc) (.int .i64 hv) (.int .i64 hb)
     have HBF := hH bf
     clear bf bz HY3
     go_wp2
     (try simp only [Exit.inBlock, Exit.then])
     generalize (((((((((((u3.alloc (.cells #[.int .i64 hk, .int .i64 hb, .int .i64 hc, .int .i64 hv] 143)).setCell ⟨fb, 0, none⟩ (.int .i64 p.s)).setCell ⟨fb, 1, none⟩ (.int .i64 1)).setCell ⟨fb, 2, none⟩ (.int .i64 hc)).setCell ⟨fb, 3, none⟩ (.int .i64 hv)).setCell ⟨fb, 4, none⟩ (.int .i64 hb)).setCell ⟨fb, 0, none⟩ (.int .i64 p.s)).setCell ⟨fb, 1, none⟩ (.int .i64 1)).setCell ⟨fb, 2, none⟩ (.int .i64 hc)).setCell ⟨fb, 3, none⟩ (.int .i64 hv)).setCell ⟨fb, 4, none⟩ (.int .i64 hb)) = wz at *
     have bf := HBF.out
     obtain ⟨k0, k1, k2, k3, k4⟩ := Kn.own5 bf
     clear bf
     refine bodyPost_ret (v := .tuple #[.agg #[.int .i64 p.s, .int .i64 1, .int .i64 hc, .int .i64 hv, .int .i64 hb], .bool true]) ?_ rfl ?_
     ·simp only [results, HRES.out]
      go_simp
     rw [HSB.out]
     exact ⟨rfl, HEND.out⟩
    | false =>
     go_wp2_with fail
     refine (head_fits_any A n cc _ p.s p.o p.l p.p p.m _ HBY3.out hn64).mono ?_
     rintro en u5 ⟨rfl, hO⟩
     rw [HDH.out]
     have HY4 := hH (HY3.out.keep0 hO)
     have x0 := hO.cell x0 (by simp)
     have x1 := hO.cell x1 (by simp)
     have x2 := hO.cell x2 (by simp)
     have x3 := hO.cell x3 (by simp)
     clear hO HBY3 p0 p1 p2 p3 p4 bS HY3 xl
     cases hft : headFits (some ⟨hk, hb, hc, hv⟩) p.s p.l p.p p.m with
     | true =>
      have hoT : (false || headFits (some ⟨hk, hb, hc, hv⟩) p.s p.l p.p p.m) = true := by rw [hft]; rfl
      have HOT := hH hoT
      clear hoT hft
      have HSB := hH ((scanB_some (d := d) (c := cf) (own := false) (p := p) ⟨hk0, by omega, by omega⟩ (by omega) HZ.out HDH.out).trans (by rw [HOT.out]))
      have bz := HY4.out.boxi 1 rfl
      obtain ⟨y0, y1, y2, y3, y4⟩ := Kn.own5 bz
      have z0 := bz.frozen 0
      have z1 := bz.frozen 1
      have z2 := bz.frozen 2
      have z3 := bz.frozen 3
      have z4 := bz.frozen 4
      have HEND := hH (((HY4.out.call1 1 rfl (own_set5 bz (.int .i64 p.s) (.int .i64 1) (.int .i64 hc) (.int .i64 hv) (.int .i64 hb)) (only_set5 _ fb _ _ _ _ _)).call1 1 rfl (own_set5 (own_set5 bz (.int .i64 p.s) (.int .i64 1) (.int .i64 hc) (.int .i64 hv) (.int .i64 hb)) (.int .i64 p.s) (.int .i64 1) (.int .i64 hc) (.int .i64 hv) (.int .i64 hb)) (only_set5 _ fb _ _ _ _ _)).sub (L' := (S, SB pd.D gb p false e 0) :: L) (F' := F) (by simp) (by intro f hf; simp [hf]))
      have bf := own_set5 (own_set5 bz (.int .i64 p.s) (.int .i64 1) (.int .i64 hc) (.int .i64 hv) (.int .i64 hb)) (.int .i64 p.s) (.int .i64 1) (.int .i64 hc) (.int .i64 hv) (.int .i64 hb)
      have HBF := hH bf
      clear bf bz HY4
      go_wp2
      (try simp only [Exit.inBlock, Exit.then])
      generalize ((((((((((u5.setCell ⟨fb, 0, none⟩ (.int .i64 p.s)).setCell ⟨fb, 1, none⟩ (.int .i64 1)).setCell ⟨fb, 2, none⟩ (.int .i64 hc)).setCell ⟨fb, 3, none⟩ (.int .i64 hv)).setCell ⟨fb, 4, none⟩ (.int .i64 hb)).setCell ⟨fb, 0, none⟩ (.int .i64 p.s)).setCell ⟨fb, 1, none⟩ (.int .i64 1)).setCell ⟨fb, 2, none⟩ (.int .i64 hc)).setCell ⟨fb, 3, none⟩ (.int .i64 hv)).setCell ⟨fb, 4, none⟩ (.int .i64 hb)) = wz at *
      have bf := HBF.out
      obtain ⟨k0, k1, k2, k3, k4⟩ := Kn.own5 bf
      clear bf
      refine bodyPost_ret (v := .tuple #[.agg #[.int .i64 p.s, .int .i64 1, .int .i64 hc, .int .i64 hv, .int .i64 hb], .bool true]) ?_ rfl ?_
      ·simp only [results, HRES.out]
       go_simp
      rw [HSB.out]
      exact ⟨rfl, HEND.out⟩
     | false =>
      have hoT : (false || headFits (some ⟨hk, hb, hc, hv⟩) p.s p.l p.p p.m) = false := by rw [hft]; rfl
      have HOT := hH hoT
      clear hoT hft x0 x1 x2 x3
      have HSB := hH ((scanB_some (d := d) (c := cf) (own := false) (p := p) ⟨hk0, by omega, by omega⟩ (by omega) HZ.out HDH.out).trans (by rw [HOT.out]))
      have bz := HY4.out.boxi 1 rfl
      obtain ⟨y0, y1, y2, y3, y4⟩ := Kn.own5 bz
      have z0 := bz.frozen 0
      have z1 := bz.frozen 1
      have z2 := bz.frozen 2
      have z3 := bz.frozen 3
      have z4 := bz.frozen 4
      have HEND := hH ((HY4.out.call1 1 rfl (own_set5 bz (.int .i64 p.s) (.int .i64 p.o) (.int .i64 p.l) (.int .i64 p.p) (.int .i64 p.m)) (only_set5 _ fb _ _ _ _ _)).sub (L' := (S, SB pd.D gb p false e 0) :: L) (F' := F) (by simp) (by intro f hf; simp [hf]))
      clear bz HY4
      go_wp2
      (try simp only [Exit.inBlock, Exit.then])
      refine bodyPost_ret (v := .tuple #[.agg #[.int .i64 p.s, .int .i64 p.o, .int .i64 p.l, .int .i64 p.p, .int .i64 p.m], .bool false]) ?_ rfl ?_
      ·simp only [results, HRES.out]
       go_simp
      rw [HSB.out]
      exact ⟨rfl, HEND.out⟩
  have hrd := hre hz0
  rw [hrd]
  rw [decHead_nil]
  have hzb : decide (z = 0) = false := by simpa using hz0
  have HY3 := hH ((HY2.out.keep0 hO).alloc (.cells #[.int .i64 0, .int .i64 0, .int .i64 0, .int .i64 0] 143))
  clear hO HY2 HBY hre hrd
  simp only [Option.getD_none, Option.isSome_none, It.vals]
  have HSB := hH ((scanB_err (d := d) (c := cf) (own := own) (p := p) ⟨hk0, by omega, by omega⟩ (by omega) (by rw [HZ.out]; exact hz0)).trans (by rw [HZ.out]))
  have bz := HY3.out.boxi 1 rfl
  obtain ⟨y0, y1, y2, y3, y4⟩ := Kn.own5 bz
  have z0 := bz.frozen 0
  have z1 := bz.frozen 1
  have z2 := bz.frozen 2
  have z3 := bz.frozen 3
  have z4 := bz.frozen 4
  have HEND := hH ((HY3.out.call1 1 rfl (own_set5 bz (.int .i64 p.s) (.int .i64 p.o) (.int .i64 p.l) (.int .i64 p.p) (.int .i64 p.m)) (only_set5 _ fb _ _ _ _ _)).sub (L' := (S, SB pd.D gb p own e z) :: L) (F' := F) (by simp) (by intro f hf; simp [hf]))
  clear bz HY3
  go_wp2
  (try simp only [Exit.inBlock, Exit.then])
  refine bodyPost_ret (v := .tuple #[.agg #[.int .i64 p.s, .int .i64 p.o, .int .i64 p.l, .int .i64 p.p, .int .i64 p.m], .bool false]) ?_ rfl ?_
  ·simp only [results, HRES.out]
   go_simp
  rw [HSB.out]
  exact ⟨rfl, HEND.out⟩
 refine tS 0 14 (hy := fun w hSw => by
  (try dsimp only at hSw); have q0 := hSw.1.cell 0 (by simp); have q1 := hSw.1.cell 1 (by simp); have q2 := hSw.2; simp only [g0, gs] at q0 q1
  go_simp
  all_goals (try with_reducible rfl)) ?_
 refine tS 1 15 (hy := fun w hSw => by
  (try dsimp only at hSw); have q0 := hSw.1.cell 0 (by simp); have q1 := hSw.1.cell 1 (by simp); have q2 := hSw.2; simp only [g0, gs] at q0 q1
  go_simp
  all_goals (try with_reducible rfl)) ?_
 refine tS 2 16 (hy := fun w hSw => by
  (try dsimp only at hSw); have q0 := hSw.1.cell 0 (by simp); have q1 := hSw.1.cell 1 (by simp); have q2 := hSw.2; simp only [g0, gs] at q0 q1
  go_simp
  all_goals (try with_reducible rfl)) ?_
 refine tS 3 17 (hy := fun w hSw => by
  (try dsimp only at hSw); have q0 := hSw.1.cell 0 (by simp); have q1 := hSw.1.cell 1 (by simp); have q2 := hSw.2; simp only [g0, gs] at q0 q1
  go_simp
  all_goals (try with_reducible rfl)) ?_
 refine tS 4 18 (hy := fun w hSw => by
  (try dsimp only at hSw); have q0 := hSw.1.cell 0 (by simp); have q1 := hSw.1.cell 1 (by simp); have q2 := hSw.2; simp only [g0, gs] at q0 q1
  go_simp
  all_goals (try with_reducible rfl)) ?_
 refine tS 5 19 (hy := fun w hSw => by
  (try dsimp only at hSw); have q0 := hSw.1.cell 0 (by simp); have q1 := hSw.1.cell 1 (by simp); have q2 := hSw.2; simp only [g0, gs] at q0 q1
  go_simp
  all_goals (try with_reducible rfl)) ?_
 refine tR 6 20 fun K hK => ?_
 go_simp
 refine (geom_has_any gb cf.b cf.s cf.l p.s _ (HX7.out.fact (fun W => GeoAt W gb cf.b cf.s cf.l) HG.out) HC.out).mono ?_
 rintro en vx ⟨rfl, rfl⟩
 rw [decide_eq_false hk0]
 have HX8 := hH HX7.out
 clear HX7
 refine hK.out _ _ ⟨HX8.out.boxi 1 rfl, by simpa [SB] using (HX8.out.boxi 0 (p := S) rfl).cell 1 (by simp [SB])⟩ (fun hSw8 => ?_)
 clear hK K
 clear hSw7
 refine tS 7 21 (hy := fun w hSw => by
  (try dsimp only at hSw); have q0 := hSw.1.cell 0 (by simp); have q1 := hSw.1.cell 1 (by simp); have q2 := hSw.2; simp only [g0, gs] at q0 q1
  go_simp
  all_goals (try with_reducible rfl)) ?_
 refine tS 8 22 (hy := fun w hSw => by
  (try dsimp only at hSw); have q0 := hSw.1.cell 0 (by simp); have q1 := hSw.1.cell 1 (by simp); have q2 := hSw.2; simp only [g0, gs] at q0 q1
  go_simp
  all_goals (try with_reducible rfl)) ?_
 refine tN 9 23 ?_
 refine tN 10 24 ?_
 refine tN 11 25 ?_
 refine tS 12 26 (hy := fun w hSw => by
  (try dsimp only at hSw); have q0 := hSw.1.cell 0 (by simp); have q1 := hSw.1.cell 1 (by simp); have q2 := hSw.2; simp only [g0, gs] at q0 q1
  go_simp
  all_goals (try with_reducible rfl)) ?_
 refine tS 13 27 (hy := fun w hSw => by
  (try dsimp only at hSw); have q0 := hSw.1.cell 0 (by simp); have q1 := hSw.1.cell 1 (by simp); have q2 := hSw.2; simp only [g0, gs] at q0 q1
  go_simp
  all_goals (try with_reducible rfl)) ?_
 refine tN 14 28 ?_
 refine tN 15 29 ?_
 refine tN 16 30 ?_
 refine tN 17 31 ?_
 refine tN 18 32 ?_
 refine tN 19 33 ?_
 refine tN 20 34 ?_
 refine tN 21 35 ?_
 refine tN 22 36 ?_
 refine tS 23 37 (hy := fun w hSw => by
  (try dsimp only at hSw); have q0 := hSw.1.cell 0 (by simp); have q1 := hSw.1.cell 1 (by simp); have q2 := hSw.2; simp only [g0, gs] at q0 q1
  go_simp
  all_goals (try with_reducible rfl)) ?_
 refine tD ?_ _
 clear hSw8
 have HSB := hH (scanB_no (d := d) (c := cf) (own := own) (p := p) (by omega))
 have bz := HX8.out.boxi 1 rfl
 obtain ⟨y0, y1, y2, y3, y4⟩ := Kn.own5 bz
 have z0 := bz.frozen 0
 have z1 := bz.frozen 1
 have z2 := bz.frozen 2
 have z3 := bz.frozen 3
 have z4 := bz.frozen 4
 have HEND := hH ((HX8.out.call1 1 rfl (own_set5 bz (.int .i64 p.s) (.int .i64 p.o) (.int .i64 p.l) (.int .i64 p.p) (.int .i64 p.m)) (only_set5 _ fb _ _ _ _ _)).sub (L' := (S, SB pd.D gb p own e 0) :: L) (F' := F) (by simp) (by intro f hf; simp [hf]))
 clear bz HX8
 go_wp2
 (try simp only [Exit.inBlock, Exit.then])
 refine bodyPost_ret (v := .tuple #[.agg #[.int .i64 p.s, .int .i64 p.o, .int .i64 p.l, .int .i64 p.p, .int .i64 p.m], .bool false]) ?_ rfl ?_
 ·simp only [results, HRES.out]
  go_simp
 rw [HSB.out]
 exact ⟨rfl, HEND.out⟩
end Go.Proofs.YtgcfdjcpcclcjaaGreat
namespace Go.Kn
open Go Go.RowKit
theorem ownsRow_base {w : World} {b b' e sz n : Nat} {v : Value} {xs : List Value} (h : w.ownsRow b' e sz v n xs) (hb : b ≤ b') : w.ownsRow b e sz v n xs := by
 obtain ⟨h1, h2⟩ := h
 refine ⟨h1, ?_⟩
 rcases h2 with h2 | ⟨g, cap, cur, hv, hb', rest⟩
 ·exact .inl h2
 exact .inr ⟨g, cap, cur, hv, Nat.le_trans hb hb', rest⟩
/-- a slice more that is owned: in new blocks -/
theorem Wc.gadd {w0 w w' : World} {L : List (Nat × List Value)} {G : List Gs} {F : List (World → Prop)} (h : Wc w0 w L G F) (hO : Only [] w w') {e sz n : Nat} {v : Value} {xs : List Value} (ho : w'.ownsRow w.heap.size e sz v n xs) : Wc w0 w' L (⟨e, sz, v, n, xs⟩ :: G) F := by
 have h' := h.keep0 hO
 have hlt := ho.lt
 have hm : ∀ k, Mut L G k → k < w.heap.size := fun k hk => h.mlt hk
 refine ⟨h'.only, h'.own, h'.lo, h'.nd, ?_, ?_, ?_, ?_⟩
 ·intro x hx
  rcases List.mem_cons.1 hx with rfl | hx
  ·exact ownsRow_base ho h.only.size
  exact h'.g1 x hx
 ·refine List.Pairwise.cons (fun y hy k hk hy2 => ?_) h'.g2
  have h1 := (hlt k hk).1
  have h2 := hm k (.inr ⟨y, hy, hy2⟩)
  omega
 ·intro x hx y hy
  rcases List.mem_cons.1 hy with rfl | hy
  ·intro hk
   have h1 := (hlt _ hk).1
   have h2 := hm x.1 (.inl (List.mem_map_of_mem hx))
   omega
  exact h'.g3 x hx y hy
 intro f hf w2 h2
 refine h.fx f hf w2 fun k o hn hk hc => h2 k o ?_ (by rw [hO.block k (lt_of_obj hk) (by simp)]; exact hk) hc
 have hk' := lt_of_obj hk
 rintro (h3 | ⟨g, hg, h3⟩)
 ·exact hn (.inl h3)
 rcases List.mem_cons.1 hg with rfl | hg
 ·have := (hlt k h3).1
  omega
 exact hn (.inr ⟨g, hg, h3⟩)
end Go.Kn
namespace Go.Proofs.YtgcfdjcpcclcjaaGreat
open Go Go.RowKit Go.Kn
def RdOwn (w : World) (b : List UInt8) (err : Int) (e : Ending) (w' : World) : Prop := ∃ v n, e = .returned (.tuple #[v, .int .i64 err]) ∧ w'.ownsRow w.heap.size 5 1 v n (bvs b) ∧ Only [] w w'
theorem RdOwn.none (w : World) (err : Int) : RdOwn w [] err (.returned (.tuple #[.slice none 0 0, .int .i64 err])) w := ⟨_, 0, rfl, World.ownsRow_nil w _ _ _, Only.refl _ _⟩
theorem clone_own (ad : Addr) (n c : Nat) (bs : List UInt8) (w : World) (h : Bys w (some ad) n c bs) (hb : n ≤ 1000000) :
  Calls Tryz.prog 84 #[.slice (some ad) n c] w fun e w' => ∃ v, e = .returned v ∧ w'.ownsRow w.heap.size 5 1 v n (bvs bs) ∧ Only [] w w' := by
 obtain ⟨i0, hi, hz0, hz1, hz2⟩ := info_parts Tryz.infoU8
 have hone := bvs_one bs
 have hnil := fun (w : World) => Lib.run_eql_slice_nil (P := Tryz.prog) w 47 5 (some ad) n c 0 0 Tryz.underlying47
 go_enter Tryz.func84, Tryz.ntmps84
 go_wp2_with (first | (at_builtin; refine wpList_append_row1 rfl (.tmp 5) (.tmp 6) _ rfl w.heap.size 5 i0 _ 1 Tryz.underlying47 hi hz0 hz1 hz2 rfl _ 0 [] rfl (World.ownsRow_made w #[] 0 (Nat.le_refl _) (by unfold maxLen; omega) rfl) (some ad) n c (bvs bs) rfl (h.keep0 ((Only.refl _ _).alloc _)) hone (by unfold maxLen; omega) (by omega) (by simp) ?_; intro v' w1 hown hgrow hat))
 go_ret
 have hO : Only [] w w1 := ((Only.refl _ _).alloc _).grown hgrow (by intro k hk; injection hk with hk; right; rw [← hk]; exact Nat.le_refl _)
 simp only [Nat.zero_add, List.nil_append] at hown
 exact ⟨v', rfl, hown, hO⟩
theorem dk_read_own (w : World) (p : PD) (d : Dk) (a : Int) (h : DskRd w p d) :
  Calls Tryz.prog 23 #[.pointer (some ⟨p.D, 0, none⟩), .int .i64 a] w (RdOwn w (d.read a) (d.err a)) := by
 obtain ⟨v, hbx⟩ := h.D_
 have c1 := hbx.cell 1 (by simp [PD.box])
 have c3 := hbx.cell 3 (by simp [PD.box])
 have c6 := hbx.cell 6 (by simp [PD.box])
 simp only [PD.box, g0, gs] at c1 c3 c6
 have hfb := h.f_
 have hnb := h.n_
 have H := hH h
 have hN := h.N
 have hF := h.ok.f
 have hn := h.ok.n
 by_cases ho : d.has a = true
 ·have hr : 0 ≤ a ∧ a < (p.N : Int) := by unfold Dk.has at ho; simp only [decide_eq_true_eq] at ho; omega
  obtain ⟨k, rfl⟩ : ∃ k : Nat, a = k := ⟨a.toNat, by omega⟩
  have hkN : k < p.N := by omega
  have hN1 : 1 ≤ p.N ∧ p.N ≤ 4096 := by omega
  obtain ⟨hN1, hN2⟩ := hN1
  have HO := hH ho
  by_cases hof : d.off = true
  ·have e1 : d.err k = 3 := by unfold Dk.err; rw [if_pos ho, if_pos hof]
   have e2 : d.read k = [] := by unfold Dk.read; rw [e1]; rfl
   rw [e1, e2]
   rw [hof] at c6
   clear hbx hfb hnb h hN hF hn ho hof e1 e2 c1 c3
   go_enter Tryz.func23, Tryz.ntmps23
   go_wp2_with fail
   refine (dk_has_rd w p d k H.out).mono ?_
   rintro e w1 ⟨rfl, rfl⟩
   rw [HO.out]
   go_wp2
   go_ret2
   exact RdOwn.none _ _
  rw [Bool.not_eq_true] at hof
  have hbl : k < (bls d.faults).length := by rw [bls_length]; omega
  have q0 := hfb.cell k hbl
  have hbg : (bls d.faults)[k] = .bool (d.bad k) := by
   unfold Dk.bad
   rw [bls_get, List.getD_eq_getElem?_getD, show ((k : Int)).toNat = k from by omega, List.getElem?_eq_getElem (by omega), Option.getD_some]
  rw [hbg] at q0
  rw [hof] at c6
  by_cases hb : d.bad k = true
  ·have e1 : d.err k = 4 := by unfold Dk.err; rw [if_pos ho, if_neg (by simp [hof]), if_pos hb]
   have e2 : d.read k = [] := by unfold Dk.read; rw [e1]; rfl
   rw [e1, e2]
   rw [hb] at q0
   clear hbx hfb hnb h hN hF hn ho hof e1 e2 c1 hbg hbl hb
   go_enter Tryz.func23, Tryz.ntmps23
   go_wp2_with fail
   refine (dk_has_rd w p d k H.out).mono ?_
   rintro e w1 ⟨rfl, rfl⟩
   rw [HO.out]
   go_wp2
   go_ret2
   exact RdOwn.none _ _
  rw [Bool.not_eq_true] at hb
  have e1 : d.err k = 0 := by unfold Dk.err; rw [if_pos ho, if_neg (by simp [hof]), if_neg (by simp [hb])]
  have e2 : d.read k = d.sector k := by unfold Dk.read; rw [if_pos e1]
  rw [e1, e2]
  rw [hb] at q0
  have hkl : k < d.now.length := by rw [Dk.now_length]; omega
  have hsec : d.sector k = d.now[k] := by
   unfold Dk.sector
   rw [List.getD_eq_getElem?_getD, show ((k : Int)).toNat = k from by omega, List.getElem?_eq_getElem hkl, Option.getD_some]
  have hrow := Row1.subrow (n := 0) (o := 64 * k) (m := 64) (c := 64) hnb (by rw [flat_length _ h.ok.now64, Dk.now_length]; omega) (Nat.le_refl _) (by simp [maxLen])
  rw [flat_cut _ h.ok.now64 k hkl, ← hsec, Nat.mul_comm 64 k] at hrow
  have hsl := Dk.sector_64 h.ok ho
  have HR := hH hrow
  clear hbx hfb hnb h hN hF hn ho hof e1 e2 hbg hbl hb hrow hsec hkl
  go_enter Tryz.func23, Tryz.ntmps23
  go_wp2_with fail
  refine (dk_has_rd w p d k H.out).mono ?_
  rintro e w1 ⟨rfl, rfl⟩
  rw [HO.out]
  go_wp2_with fail
  refine (clone_own ⟨p.n, k * 64, none⟩ 64 64 _ _ (by exact HR.out) (by decide)).mono ?_
  rintro e w1 ⟨v', rfl, hown, hO⟩
  have HF := hH hown
  have HO1 := hH hO
  rcases hown.2 with ⟨rfl, h0⟩ | ⟨g, cap, cur, rfl, _⟩
  ·exact absurd h0 (by decide)
  clear hown hO
  go_wp2
  go_ret2
  exact ⟨_, 64, rfl, HF.out, HO1.out⟩
 have e1 : d.err a = 1 := by unfold Dk.err; rw [if_neg ho]
 have e2 : d.read a = [] := by unfold Dk.read; rw [e1]; rfl
 rw [e1, e2]
 rw [Bool.not_eq_true] at ho
 have HO := hH ho
 clear hbx hfb hnb h hN hF hn ho e1 e2
 go_enter Tryz.func23, Tryz.ntmps23
 go_wp2_with fail
 refine (dk_has_rd w p d a H.out).mono ?_
 rintro e w1 ⟨rfl, rfl⟩
 rw [HO.out]
 go_wp2
 go_ret2
 exact RdOwn.none _ _
theorem _root_.Go.Kn.Wk.gadd {w0 wb w w' : World} {L : List (Nat × List Value)} {G : List Gs} {F : List (World → Prop)} (h : Wk w0 wb w L G F) (hO : Only [] w w') {e sz n : Nat} {v : Value} {xs : List Value} (ho : w'.ownsRow w.heap.size e sz v n xs) : Wk w0 wb w' L (⟨e, sz, v, n, xs⟩ :: G) F := h.to (h.toWc.gadd hO ho) (kb_only0 hO)
def ReadOwn (w0 wb : World) (S D gb : Nat) (p : Ps) (own : Bool) (e : Ps) (L : List (Nat × List Value)) (G : List Gs) (F : List (World → Prop)) (b : List UInt8) (er : Int) (en : Ending) (w' : World) : Prop :=
 ∃ A n c, en = .returned (.tuple #[.slice A n c, .bool (decide (er = 0))]) ∧ Wk w0 wb w' ((S, SB D gb p own e er) :: L) (⟨5, 1, .slice A n c, n, bvs b⟩ :: G) F
theorem scan_read_own {wb : World} (w0 w : World) (S gb : Nat) (pd : PD) (d : Dk) (p : Ps) (own : Bool) (e : Ps) (er : Int) (L : List (Nat × List Value)) (G : List Gs) (F : List (World → Prop)) (a : Int)
  (hw : Wk w0 wb w ((S, SB pd.D gb p own e er) :: L) G F) (hd : DkIn pd d L) :
  Calls Tryz.prog 183 #[.pointer (some ⟨S, 0, none⟩), .int .i64 a] w (ReadOwn w0 wb S pd.D gb p own e L G F (d.read a) (d.err a)) := by
 have hb := hw.boxi 0 rfl
 have c0 := hb.cell 0 (by simp [SB])
 simp only [SB, List.getElem_cons_zero] at c0
 have H := hH hw
 have HR := hH (hd.rd hw.own (fun x hx => mc _ hx))
 clear hw hb hd
 go_enter Tryz.func183, Tryz.ntmps183
 go_wp2_with fail
 refine (dk_read_own w pd d a HR.out).mono ?_
 rintro en w1 ⟨v, n, rfl, hown, hO⟩
 have hW := H.out.gadd hO hown
 obtain ⟨A, c, rfl⟩ := hW.gform 0 rfl
 have HW := hH hW
 have h13 := (HW.out.boxi 0 (p := S) rfl)
 have y0 := h13.cell 13 (by simp [SB])
 have f13 := h13.frozen 13
 simp only [SB, g0, gs] at y0
 have HE := hH (HW.out.put 0 (p := S) rfl 13 (.int .i64 (d.err a)))
 obtain ⟨z, hz⟩ : ∃ z, d.err a = z := ⟨_, rfl⟩
 rw [hz] at HE ⊢
 have HZ := hH hz
 clear hown hW hO h13 H HR hz
 by_cases h0 : z = 0
 ·subst h0
  go_wp2_with fail
  go_quiet (fail)
  go_wp2
  go_ret2
  rw [HZ.out]
  exact ⟨A, n, c, rfl, HE.out.drewN _⟩
 have h1 : (z == 0) = false := by simpa using h0
 go_wp2_with fail
 go_quiet (fail)
 go_wp2
 go_ret2
 rw [HZ.out]
 exact ⟨A, n, c, by rw [decide_eq_false h0]; rfl, HE.out.drewN _⟩
end Go.Proofs.YtgcfdjcpcclcjaaGreat
