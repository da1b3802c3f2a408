/- HeadR, HeadF, ScanP, GeoS, KitD, WkP, ScnA, ScnB, ItemD, KitB, KitC, RecF, RecG: joined by pack.py, without what the claim does not use. -/
import Derived.Test.YtgcfdjcpcclcjaaGreatScanBreaksD
set_option linter.unusedVariables false
set_option linter.unusedSimpArgs false
namespace Go.Proofs.YtgcfdjcpcclcjaaGreat
open Go Go.RowKit Go.Kn
set_option maxRecDepth 100000 in
set_option maxHeartbeats 4000000 in
theorem ref_head_enc_own (f0 f1 f2 f3 : Int) (w : World) :
    Calls Tryz.prog 78 #[.agg #[.int .i64 f0, .int .i64 f1, .int .i64 f2, .int .i64 f3]] w (EncOwn w (encHead ⟨f0, f1, f2, f3⟩)) := by
  cases hm : headMay ⟨f0, f1, f2, f3⟩
  · have HM := Lib.hid hm
    clear hm
    go_enter Tryz.func78, Tryz.ntmps78
    go_wp2_with fail
    refine (ref_head_may_any f0 f1 f2 f3 _).mono ?_
    rintro e w1 ⟨rfl, hO1⟩
    rw [HM.out]
    go_wp2
    go_ret2
    exact EncOwn.no (by unfold encHead; rw [HM.out]; rfl) (((Only.refl _ _).alloc _).trans' hO1)
  · have HM := Lib.hid hm
    have HF0 : Hid (0 ≤ f0 ∧ f0 < 256 ^ 1) := Lib.hid (by have := headMay_iff.1 hm; simp only [Int.reducePow] at *; omega)
    have HF1 : Hid (Fit 4 [f1, f2, f3]) := Lib.hid (by have := headMay_iff.1 hm; simp only [fit_cons, fit_nil, Int.reducePow, and_true] at *; omega)
    have HE : Hid (encHead ⟨f0, f1, f2, f3⟩ = some (sealed (headRow ⟨f0, f1, f2, f3⟩))) := Lib.hid (by unfold encHead; rw [if_pos hm])
    have HLR := Lib.hid (headRow_length ⟨f0, f1, f2, f3⟩)
    clear hm
    go_enter Tryz.func78, Tryz.ntmps78
    go_wp2_with fail
    refine (ref_head_may_any f0 f1 f2 f3 _).mono ?_
    rintro e w1 ⟨rfl, hO1⟩
    rw [HM.out]
    have HB1 := Lib.hid ((Own.new w #[.int .i64 f0, .int .i64 f1, .int .i64 f2, .int .i64 f3] 143).keep0 hO1)
    have HO1 := Lib.hid (((Only.refl [] w).alloc (.cells #[.int .i64 f0, .int .i64 f1, .int .i64 f2, .int .i64 f3] 143)).trans' hO1)
    have HSZ : Hid (w.heap.size ≤ w.heap.size) := Lib.hid (Nat.le_refl _)
    clear hO1
    go_wp2_with fail
    generalize hbb : w.heap.size = b at HB1 HSZ ⊢
    have HBB := Lib.hid hbb
    clear hbb
    refine (ref_begun_any 64 75 72 75 72 _ rfl rfl (by decide) (by decide)).mono ?_
    rintro e w2 ⟨p, g, rfl, hp, hg, hr, hO⟩
    have HS : Hid (Encs w w2 p g 2 b (lay zeros64 0 [75, 72]) [.int .i64 f0, .int .i64 f1, .int .i64 f2, .int .i64 f3]) := Lib.hid (Encs.start HB1.out HO1.out hp hg hr hO)
    have hgg : b < w1.heap.size := HB1.out.lt
    clear hr hO HB1
    have x0 := HS.out.box.cell 0 (by simp)
    have x1 := HS.out.box.cell 1 (by simp)
    have x2 := HS.out.box.cell 2 (by simp)
    have x3 := HS.out.box.cell 3 (by simp)
    simp only [List.getElem_cons_zero, List.getElem_cons_succ] at x0 x1 x2 x3
    go_wp2_with fail
    have LX : (lay zeros64 0 [75, 72]).length = 64 := by first | rfl | (simp [lay_length, zeros64]) | (rw [lay_length _ _ _ (by simp [lay_length, zeros64])]; simp [lay_length, zeros64])
    refine (ref_one_any p g 2 (lay zeros64 0 [75, 72]) 1 f0 _ (by exact HS.out.row) (by decide) (by rw [LX]; decide) HF0.out).mono ?_
    rintro e w3 ⟨rfl, hr, hO⟩
    have HS0 : Hid (Encs w w3 p g 3 b (lay (lay zeros64 0 [75, 72]) 2 (le 1 f0.toNat)) [.int .i64 f0, .int .i64 f1, .int .i64 f2, .int .i64 f3]) := Lib.hid (HS.out.put hr hO)
    clear hr hO LX HS x0 x1 x2 x3
    have HS := HS0
    clear HS0
    have x0 := HS.out.box.cell 0 (by simp)
    have x1 := HS.out.box.cell 1 (by simp)
    have x2 := HS.out.box.cell 2 (by simp)
    have x3 := HS.out.box.cell 3 (by simp)
    simp only [List.getElem_cons_zero, List.getElem_cons_succ] at x0 x1 x2 x3
    go_wp2_with fail
    have LX : (lay (lay zeros64 0 [75, 72]) 2 (le 1 f0.toNat)).length = 64 := by first | rfl | (simp [lay_length, zeros64]) | (rw [lay_length _ _ _ (by simp [lay_length, zeros64])]; simp [lay_length, zeros64])
    refine (ref_put_any p g 3 (lay (lay zeros64 0 [75, 72]) 2 (le 1 f0.toNat)) 4 _ 3 3 [f1, f2, f3] _ (by exact HS.out.row.alloc _) (by exact ins_built _ [f1, f2, f3] _ 3 rfl (by omega)) (by exact ne_built HS.out.row) (by decide) (by rw [LX]; decide) HF1.out).mono ?_
    rintro e w4 ⟨rfl, hr, hO⟩
    have HS1 : Hid (Encs w w4 p g 15 b (lay (lay (lay zeros64 0 [75, 72]) 2 (le 1 f0.toNat)) 3 (les 4 [f1, f2, f3])) [.int .i64 f0, .int .i64 f1, .int .i64 f2, .int .i64 f3]) := Lib.hid ((HS.out.alloc _).put hr hO)
    clear hr hO LX HS x0 x1 x2 x3
    have HS := HS1
    clear HS1
    go_wp2_with fail
    have HX : Hid ((lay (lay (lay zeros64 0 [75, 72]) 2 (le 1 f0.toNat)) 3 (les 4 [f1, f2, f3])) = headRow ⟨f0, f1, f2, f3⟩) := Lib.hid (headRow_ref ⟨f0, f1, f2, f3⟩)
    rw [HX.out] at HS
    generalize headRow ⟨f0, f1, f2, f3⟩ = X at *
    clear HX
    refine (ref_closed_any p g 15 X _ (by exact HS.out.row) HLR.out).mono ?_
    rintro e w8 ⟨c4, rfl, hc4, hm4, ho5, hO5⟩
    have hgw : w.heap.size ≤ g := HS.out.hg
    have HO5 := Lib.hid (HS.out.only.trans hO5 (by simp [HS.out.hg, HS.out.hp]) : Only [] w w8)
    have HW5 := Lib.hid ho5
    clear ho5 hO5 HS
    go_wp2
    go_ret2
    have hl := sealed_length X HLR.out
    exact EncOwn.yes HE.out hl hc4 hm4 hgw HW5.out HO5.out
end Go.Proofs.YtgcfdjcpcclcjaaGreat
namespace Go.Kn
open Go Go.RowKit
/-- does what was read fit a place -/
def headFits (o : Option It) (s l pv m : Int) : Bool := match o with
  | none => false
  | some h => (h.k == s) && (h.c == l) && (h.v == pv) && decide (m ≤ h.b)
end Go.Kn
namespace Go.Proofs.YtgcfdjcpcclcjaaGreat
open Go Go.RowKit Go.Kn
set_option maxRecDepth 100000 in
set_option maxHeartbeats 4000000 in
theorem head_fits_any (A : Option Addr) (n c : Nat) (bs : List UInt8) (s off l pv m : Int) (w : World) (hi : Bys w A n c bs) (hn : n ≤ 65536) :
    Calls Tryz.prog 185 #[.slice A n c, .agg #[.int .i64 s, .int .i64 off, .int .i64 l, .int .i64 pv, .int .i64 m]] w fun e w' => e = .returned (.bool (headFits (decHead bs) s l pv m)) ∧ Only [] w w' := by
  have HI := Lib.hid hi
  clear hi
  go_enter Tryz.func185, Tryz.ntmps185
  go_wp2_with fail
  refine (head_dec_any A n c bs _ (by exact HI.out.alloc _) hn).mono ?_
  rintro e w1 ⟨rfl, hO1⟩
  have p0 := hO1.cell (p := ⟨w.heap.size, 0, none⟩) (v := .int .i64 s) (by simp) (by simp)
  have p2 := hO1.cell (p := ⟨w.heap.size, 2, none⟩) (v := .int .i64 l) (by simp) (by simp)
  have p3 := hO1.cell (p := ⟨w.heap.size, 3, none⟩) (v := .int .i64 pv) (by simp) (by simp)
  have p4 := hO1.cell (p := ⟨w.heap.size, 4, none⟩) (v := .int .i64 m) (by simp) (by simp)
  have hsz : w.heap.size < w1.heap.size := by have := hO1.size; simp at this; omega
  have HO1 := Lib.hid (((Only.refl [] w).alloc (.cells #[.int .i64 s, .int .i64 off, .int .i64 l, .int .i64 pv, .int .i64 m] 32)).trans' hO1)
  clear hO1
  cases hd : decHead bs with
  | none =>
    have HD := Lib.hid hd
    clear hd
    simp only [Option.getD_none, Option.isSome_none, It.vals]
    go_wp2
    go_ret
    exact ⟨by rw [HD.out]; rfl, HO1.out.alloc _⟩
  | some h =>
    obtain ⟨hk, hb, hc, hv⟩ := h
    have HD := Lib.hid hd
    clear hd
    simp only [Option.getD_some, Option.isSome_some, It.vals, if_true]
    go_wp2
    all_goals (go_ret; exact ⟨by rw [HD.out]; simp [headFits, *], HO1.out.alloc _⟩)
end Go.Proofs.YtgcfdjcpcclcjaaGreat
namespace Go.Kn
open Go Go.RowKit
structure Ps where
  s : Int
  o : Int
  l : Int
  p : Int
  m : Int
def Ps.vals (p : Ps) : List Value := [.int .i64 p.s, .int .i64 p.o, .int .i64 p.l, .int .i64 p.p, .int .i64 p.m]
structure Cf where
  b : Int
  s : Int
  l : Int
abbrev Cf.Ok (c : Cf) : Prop := CfOk c.b c.s c.l
/-- where a segment begins -/
def Cf.at_ (c : Cf) (k : Int) : Int := if 0 ≤ k ∧ k ≤ c.s - 1 then 2 + 2 * rln c.s + 4 * pgs c.b + k * c.l else -1
def Cf.sectors (c : Cf) : Int := 2 + 2 * rln c.s + 4 * pgs c.b + c.s * c.l
/-- so many sectors from one on, and the first error -/
def gat (d : Dk) (a : Int) (n : Nat) : List UInt8 := (List.range n).flatMap fun i => d.read (a + (i : Nat))
def gerr (d : Dk) (a : Int) : Nat → Int
  | 0 => 0
  | n + 1 => if gerr d a n = 0 then d.err (a + n) else gerr d a n
theorem gat_succ (d : Dk) (a : Int) (n : Nat) : gat d a (n + 1) = gat d a n ++ d.read (a + (n : Nat)) := by simp [gat, List.range_succ]
theorem gat_one (d : Dk) (a : Int) : gat d a 1 = d.read a := by simp [gat]
theorem gerr_one (d : Dk) (a : Int) : gerr d a 1 = d.err a := by simp [gerr]
theorem gerr_succ (d : Dk) (a : Int) (n : Nat) : gerr d a (n + 1) = if gerr d a n = 0 then d.err (a + (n : Nat)) else gerr d a n := rfl
theorem gerr_le {d : Dk} {a : Int} {n m : Nat} (h : gerr d a n = 0) (hm : m ≤ n) : gerr d a m = 0 := by
  induction n with
  | zero => obtain rfl : m = 0 := by omega
            rfl
  | succ n ih =>
    rw [gerr_succ] at h
    split at h
    · rename_i h0
      rcases Nat.lt_or_ge n m with h2 | h2
      · obtain rfl : m = n + 1 := by omega
        rw [gerr_succ, if_pos h0]; exact h
      · exact ih h0 h2
    · rename_i h0; exact absurd h h0
theorem gerr_stop {d : Dk} {a : Int} {n m : Nat} (h : gerr d a m ≠ 0) (hm : m ≤ n) : gerr d a n = gerr d a m := by
  induction n with
  | zero => obtain rfl : m = 0 := by omega
            rfl
  | succ n ih =>
    rcases Nat.lt_or_ge n m with h2 | h2
    · obtain rfl : m = n + 1 := by omega
      rfl
    · have := ih h2
      rw [gerr_succ, if_neg (by rw [this]; exact h), this]
theorem gat_len {d : Dk} (hd : d.Ok) {a : Int} : ∀ n, gerr d a n = 0 → (gat d a n).length = 64 * n
  | 0, _ => rfl
  | n + 1, h => by
    have h0 := gerr_le h (Nat.le_succ n)
    rw [gerr_succ, if_pos h0] at h
    rw [gat_succ, List.length_append, gat_len hd n h0, Dk.read_64 hd h]
    omega
/-- the segment that a record tells -/
def nextOf (r : Rc) : Option Int := (r.its.find? fun i => i.k == 7).map (·.v)
/-- the record that follows a place, and the place behind it; the error -/
def follow (d : Dk) (c : Cf) (p : Ps) : Option (Rc × Ps) × Int :=
  if 1 ≤ p.o ∧ p.o ≤ c.l - 1 then
    if d.err (c.at_ p.s + p.o) = 0 then
      if sizeRc (d.read (c.at_ p.s + p.o)) = 0 ∨ c.l < p.o + (sizeRc (d.read (c.at_ p.s + p.o)) : Nat) then (none, 0)
      else if gerr d (c.at_ p.s + p.o) (sizeRc (d.read (c.at_ p.s + p.o))) = 0 then
        match decRc (gat d (c.at_ p.s + p.o) (sizeRc (d.read (c.at_ p.s + p.o)))) with
        | none => (none, 0)
        | some (r, sum) => if r.n = p.l ∧ r.p = p.p ∧ p.m ≤ r.m then (some (r, ⟨p.s, p.o + (sizeRc (d.read (c.at_ p.s + p.o)) : Nat), p.l + 1, (sum : Nat), r.m⟩), 0) else (none, 0)
      else (none, gerr d (c.at_ p.s + p.o) (sizeRc (d.read (c.at_ p.s + p.o))))
    else (none, d.err (c.at_ p.s + p.o))
  else (none, 0)
/-- gone through from a place on: what is told, the place behind it, the error -/
def scanG (d : Dk) (c : Cf) : Nat → Ps → List (Ps × Rc) × Ps × Int
  | 0, p => ([], p, 0)
  | k + 1, p => match follow d c p with
    | (none, e) => ([], p, e)
    | (some (r, q), _) => if (nextOf r).isSome then ([(p, r)], q, 0) else ((p, r) :: (scanG d c k q).1, (scanG d c k q).2)
/-- where it begins; does it; the error -/
def scanB (d : Dk) (c : Cf) (own : Bool) (p : Ps) : Ps × Bool × Int :=
  if (0 ≤ p.s ∧ p.s ≤ c.s - 1) ∧ 0 ≤ p.o ∧ p.o < c.l then
    if 0 < p.o then (p, true, 0)
    else if d.err (c.at_ p.s) = 0 then
      match decHead (d.read (c.at_ p.s)) with
      | none => (p, false, 0)
      | some h => if (own || headFits (some h) p.s p.l p.p p.m) = true then (⟨p.s, 1, h.c, h.v, h.b⟩, true, 0) else (p, false, 0)
    else (p, false, d.err (c.at_ p.s))
  else (p, false, 0)
def scanR (d : Dk) (c : Cf) (own : Bool) (p : Ps) : List (Ps × Rc) × Ps × Int :=
  if (scanB d c own p).2.1 then scanG d c 65 (scanB d c own p).1 else ([], (scanB d c own p).1, (scanB d c own p).2.2)
end Go.Kn
namespace Go.Kn
open Go Go.RowKit
def Cf.vals (c : Cf) : Array Value := #[.int .i64 c.b, .int .i64 c.s, .int .i64 c.l]
theorem Cf.prod (c : Cf) (h : c.Ok) (k : Int) (h0 : 0 ≤ k) (h1 : k ≤ c.s) : 0 ≤ k * c.l ∧ k * c.l ≤ 2048 := by
  obtain ⟨_, hs, hl⟩ := h
  refine ⟨Int.mul_nonneg h0 (by omega), ?_⟩
  have := Int.mul_le_mul (show k ≤ 32 by omega) (show c.l ≤ 64 by omega) (by omega) (by omega)
  omega
end Go.Kn
namespace Go.Proofs.YtgcfdjcpcclcjaaGreat
open Go Go.RowKit Go.Kn
theorem geom_segs_any (p : Nat) (b s l : Int) (w : World) (hg : GeoAt w p b s l) (hb : CfOk b s l) :
    Calls Tryz.prog 82 #[.pointer (some ⟨p, 0, none⟩)] w fun e w' => e = .returned (.int .i64 (2 + 2 * rln s + 4 * pgs b)) ∧ Only [] w w' := by
  have HG := Lib.hid hg
  have HB := Lib.hid hb
  have h1 := rln_bounds hb
  have h2 := pgs_bounds hb
  have hw1 := IntWalk.i64_in (2 * pgs b) (by omega)
  have hw2 := IntWalk.i64_in (rln s + 2 * pgs b) (by omega)
  have hw3 := IntWalk.i64_in (2 * (rln s + 2 * pgs b)) (by omega)
  have hw4 := IntWalk.i64_in (2 + 2 * (rln s + 2 * pgs b)) (by omega)
  obtain ⟨r1, r2, r3⟩ := h1
  obtain ⟨g1, g2⟩ := h2
  clear hg hb r3
  go_enter Tryz.func82, Tryz.ntmps82
  go_wp2_with fail
  refine (geom_rlen_any p b s l _ HG.out HB.out).mono ?_
  rintro e w1 ⟨rfl, rfl⟩
  go_wp2_with fail
  refine (geom_pages_any p b s l _ HG.out HB.out).mono ?_
  rintro e w2 ⟨rfl, hO⟩
  have HO := Lib.hid hO
  clear hO
  have he : 2 + 2 * (rln s + 2 * pgs b) = 2 + 2 * rln s + 4 * pgs b := by omega
  have HE := Lib.hid he
  clear he
  go_wp2
  go_ret
  exact ⟨by rw [HE.out]; rfl, HO.out⟩
set_option maxRecDepth 100000 in
set_option maxHeartbeats 4000000 in
theorem geom_seg_any (p : Nat) (c : Cf) (k : Int) (w : World) (hg : GeoAt w p c.b c.s c.l) (hb : c.Ok) :
    Calls Tryz.prog 22 #[.pointer (some ⟨p, 0, none⟩), .int .i64 k] w fun e w' => e = .returned (.int .i64 (c.at_ k)) ∧ Only [] w w' := by
  have HG := Lib.hid hg
  have HB := Lib.hid hb
  by_cases hk : 0 ≤ k ∧ k ≤ c.s - 1
  · have e : c.at_ k = 2 + 2 * rln c.s + 4 * pgs c.b + k * c.l := by unfold Cf.at_; rw [if_pos hk]
    rw [e]
    obtain ⟨m1, m2⟩ := Cf.prod c hb k hk.1 (by omega)
    have h1 := rln_bounds hb
    have h2 := pgs_bounds hb
    have hq : 2 ≤ 2 + 2 * rln c.s + 4 * pgs c.b ∧ 2 + 2 * rln c.s + 4 * pgs c.b ≤ 30 := by omega
    have HK := Lib.hid (decide_eq_true hk)
    have hw1 := IntWalk.i64_in (k * c.l) (by omega)
    have hw2 := IntWalk.i64_in (2 + 2 * rln c.s + 4 * pgs c.b + k * c.l) (by omega)
    obtain ⟨Q, hQ⟩ : ∃ q, 2 + 2 * rln c.s + 4 * pgs c.b = q := ⟨_, rfl⟩
    rw [hQ] at hw2 hq ⊢
    have HQ := Lib.hid hQ
    obtain ⟨hq1, hq2⟩ := hq
    clear hg hb h1 h2 hk e hQ
    go_enter Tryz.func22, Tryz.ntmps22
    go_wp2_with fail
    refine (geom_has_any p c.b c.s c.l k _ HG.out HB.out).mono ?_
    rintro e w1 ⟨rfl, rfl⟩
    rw [HK.out]
    go_wp2_with fail
    have HG7 := Lib.hid (HG.out.keep0 (Only.refl [] w).drew)
    have HO7 := Lib.hid (Only.refl [] w).drew
    refine wp_region_held_drew (S := fun w' => w'.cell? ⟨p, 2, none⟩ = some (.int .i64 c.l)) (by kernel_rfl) HG7.out.c2 (fun hSw0 => ?_)
    generalize w.drew = ws at *
    refine wpAnyH_take (i := 0) (oi := ⟨some 9, _, _, _, _, _⟩) (v := ?_) rfl (by kernel_rfl) (by kernel_rfl) (by kernel_rfl) (fun _ _ _ h => h) (Or.inl ⟨by rfl, ?_⟩) (by assumption) ?_
    rotate_left
    · intro w hSw
      (try dsimp only at hSw)
      go_simp
      all_goals (try with_reducible rfl)
    (try simp only [Act.put, List.setIfInBounds_toArray, List.set_cons_zero, List.set_cons_succ])
    refine wpAnyH_take (i := 2) (oi := ⟨some 11, _, _, _, _, _⟩) (v := ?_) rfl (by kernel_rfl) (by kernel_rfl) (by kernel_rfl) (fun _ _ _ h => h) (Or.inl ⟨by rfl, ?_⟩) (by assumption) ?_
    rotate_left
    · intro w hSw
      (try dsimp only at hSw)
      go_simp
      all_goals (try with_reducible rfl)
    (try simp only [Act.put, List.setIfInBounds_toArray, List.set_cons_zero, List.set_cons_succ])
    refine wpAnyH_take (i := 3) (oi := ⟨some 12, _, _, _, _, _⟩) (v := ?_) rfl (by kernel_rfl) (by kernel_rfl) (by kernel_rfl) (fun _ _ _ h => h) (Or.inl ⟨by rfl, ?_⟩) (by assumption) ?_
    rotate_left
    · intro w hSw
      (try dsimp only at hSw)
      go_simp
      all_goals (try with_reducible rfl)
    (try simp only [Act.put, List.setIfInBounds_toArray, List.set_cons_zero, List.set_cons_succ])
    refine wpAnyH_take (i := 4) (oi := ⟨some 13, _, _, _, _, _⟩) (v := ?_) rfl (by kernel_rfl) (by kernel_rfl) (by kernel_rfl) (fun _ _ _ h => h) (Or.inl ⟨by rfl, ?_⟩) (by assumption) ?_
    rotate_left
    · intro w hSw
      (try dsimp only at hSw)
      go_simp
      all_goals (try with_reducible rfl)
    (try simp only [Act.put, List.setIfInBounds_toArray, List.set_cons_zero, List.set_cons_succ])
    refine wpAnyH_take (i := 5) (oi := ⟨some 14, _, _, _, _, _⟩) (v := ?_) rfl (by kernel_rfl) (by kernel_rfl) (by kernel_rfl) (fun _ _ _ h => h) (Or.inl ⟨by rfl, ?_⟩) (by assumption) ?_
    rotate_left
    · intro w hSw
      (try dsimp only at hSw)
      go_simp
      all_goals (try with_reducible rfl)
    (try simp only [Act.put, List.setIfInBounds_toArray, List.set_cons_zero, List.set_cons_succ])
    refine wpAnyH_take (i := 6) (oi := ⟨some 15, _, _, _, _, _⟩) (v := ?_) rfl (by kernel_rfl) (by kernel_rfl) (by kernel_rfl) (fun _ _ _ h => h) (Or.inl ⟨by rfl, ?_⟩) (by assumption) ?_
    rotate_left
    · intro w hSw
      (try dsimp only at hSw)
      go_simp
      all_goals (try with_reducible rfl)
    (try simp only [Act.put, List.setIfInBounds_toArray, List.set_cons_zero, List.set_cons_succ])
    refine wpAnyH_take (i := 7) (oi := ⟨some 16, _, _, _, _, _⟩) (v := ?_) rfl (by kernel_rfl) (by kernel_rfl) (by kernel_rfl) (fun _ _ _ h => h) (Or.inl ⟨by rfl, ?_⟩) (by assumption) ?_
    rotate_left
    · intro w hSw
      (try dsimp only at hSw)
      go_simp
      all_goals (try with_reducible rfl)
    (try simp only [Act.put, List.setIfInBounds_toArray, List.set_cons_zero, List.set_cons_succ])
    refine wpAnyH_take (i := 8) (oi := ⟨some 17, _, _, _, _, _⟩) (v := ?_) rfl (by kernel_rfl) (by kernel_rfl) (by kernel_rfl) (fun _ _ _ h => h) (Or.inl ⟨by rfl, ?_⟩) (by assumption) ?_
    rotate_left
    · intro w hSw
      (try dsimp only at hSw)
      go_simp
      all_goals (try with_reducible rfl)
    (try simp only [Act.put, List.setIfInBounds_toArray, List.set_cons_zero, List.set_cons_succ])
    refine wpAnyH_ready (rs := [1]) (by kernel_rfl) (by simp) ?_
    refine AllReadyH.cons (o := ⟨some 10, _, _, _, _, _⟩) rfl (fun K hK => ?_) AllReadyH.nil
    go_simp
    refine (geom_segs_any p c.b c.s c.l _ HG7.out HB.out).mono ?_
    rintro e w2 ⟨rfl, hO⟩
    rw [HQ.out]
    have HO8 := Lib.hid (HO7.out.trans' hO)
    have HG8 := Lib.hid (HG7.out.keep0 hO)
    clear hO
    refine hK.out _ _ HG8.out.c2 (fun hSn => ?_)
    clear hK K hSw0
    have hSw0 := hSn
    clear hSn
    (try simp only [Act.put, List.setIfInBounds_toArray, List.set_cons_zero, List.set_cons_succ])
    refine wpAnyH_take (i := 9) (oi := ⟨some 18, _, _, _, _, _⟩) (v := ?_) rfl (by kernel_rfl) (by kernel_rfl) (by kernel_rfl) (fun _ _ _ h => h) (Or.inl ⟨by rfl, ?_⟩) (by assumption) ?_
    rotate_left
    · intro w hSw
      (try dsimp only at hSw)
      go_simp
      all_goals (try with_reducible rfl)
    (try simp only [Act.put, List.setIfInBounds_toArray, List.set_cons_zero, List.set_cons_succ])
    refine wpAnyH_take (i := 10) (oi := ⟨some 4, _, _, _, _, _⟩) (v := ?_) rfl (by kernel_rfl) (by kernel_rfl) (by kernel_rfl) (fun _ _ _ h => h) (Or.inl ⟨by rfl, ?_⟩) (by assumption) ?_
    rotate_left
    · intro w hSw
      (try dsimp only at hSw)
      go_simp
      all_goals (try with_reducible rfl)
    (try simp only [Act.put, List.setIfInBounds_toArray, List.set_cons_zero, List.set_cons_succ])
    refine wpAnyH_done (by kernel_rfl) ?_ _
    clear hSw0
    go_wp2
    go_ret
    exact ⟨rfl, HO8.out⟩
  · have e : c.at_ k = -1 := by unfold Cf.at_; rw [if_neg hk]
    rw [e]
    have HK := Lib.hid (decide_eq_false hk)
    clear hg hb hk e
    go_enter Tryz.func22, Tryz.ntmps22
    go_wp2_with fail
    refine (geom_has_any p c.b c.s c.l k _ HG.out HB.out).mono ?_
    rintro e w1 ⟨rfl, rfl⟩
    rw [HK.out]
    go_wp2
    go_ret
    exact ⟨rfl, Only.refl _ _⟩
set_option maxRecDepth 100000 in
set_option maxHeartbeats 4000000 in
theorem ref_segat_any (c : Cf) (k : Int) (w : World) (hb : c.Ok) :
    Calls Tryz.prog 32 #[.agg #[.int .i64 c.b, .int .i64 c.s, .int .i64 c.l], .int .i64 k] w fun e w' => e = .returned (.int .i64 (c.at_ k)) ∧ Only [] w w' := by
  have HB := Lib.hid hb
  have hss : 8 ≤ c.s ∧ c.s ≤ 32 := hb.2.1
  have hw0 := IntWalk.i64_in (c.s - 1) (by omega)
  obtain ⟨hs1, hs2⟩ := hss
  by_cases hk : 0 ≤ k ∧ k ≤ c.s - 1
  · have e : c.at_ k = 2 + 2 * rln c.s + 4 * pgs c.b + k * c.l := by unfold Cf.at_; rw [if_pos hk]
    rw [e]
    obtain ⟨m1, m2⟩ := Cf.prod c hb k hk.1 (by omega)
    have h1 := rln_bounds hb
    have h2 := pgs_bounds hb
    have HK := Lib.hid (decide_eq_true hk)
    have hx1 := IntWalk.i64_in (2 * rln c.s) (by omega)
    have hx2 := IntWalk.i64_in (2 + 2 * rln c.s) (by omega)
    have hx3 := IntWalk.i64_in (4 * pgs c.b) (by omega)
    have hx4 := IntWalk.i64_in (2 + 2 * rln c.s + 4 * pgs c.b) (by omega)
    have hw1 := IntWalk.i64_in (k * c.l) (by omega)
    have hw2 := IntWalk.i64_in (2 + 2 * rln c.s + 4 * pgs c.b + k * c.l) (by omega)
    clear hb h1 h2 hk e
    go_enter Tryz.func32, Tryz.ntmps32
    have ho0 := Own.new w #[.int .i64 c.b, .int .i64 c.s, .int .i64 c.l] 25
    have HX0 := Lib.hid ho0
    have HO0 := Lib.hid ((Only.refl [] w).alloc (.cells #[.int .i64 c.b, .int .i64 c.s, .int .i64 c.l] 25))
    clear ho0
    go_wp2_with fail
    generalize w.alloc (.cells #[.int .i64 c.b, .int .i64 c.s, .int .i64 c.l] 25) = wa at *
    generalize w.heap.size = fb at *
    refine (within_any k 0 (c.s - 1) _).mono ?_
    rintro e w1 ⟨rfl, rfl⟩
    rw [HK.out]
    go_wp2_with fail
    have HX7 := Lib.hid HX0.out.drew
    have HO7 := Lib.hid HO0.out.drew
    refine wp_region_held_drew (S := fun w' => w'.cell? ⟨fb, 0, none⟩ = some (.int .i64 c.b) ∧ w'.cell? ⟨fb, 1, none⟩ = some (.int .i64 c.s) ∧ w'.cell? ⟨fb, 2, none⟩ = some (.int .i64 c.l)) (by kernel_rfl) ⟨HX7.out.cell 0 (by simp), HX7.out.cell 1 (by simp), HX7.out.cell 2 (by simp)⟩ (fun hSw0 => ?_)
    generalize wa.drew = ws at *
    refine wpAnyH_take (i := 0) (oi := ⟨some 11, _, _, _, _, _⟩) (v := ?_) rfl (by kernel_rfl) (by kernel_rfl) (by kernel_rfl) (fun _ _ _ h => h) (Or.inl ⟨by rfl, ?_⟩) (by assumption) ?_
    rotate_left
    · intro w hSw
      (try dsimp only at hSw)
      go_simp
      all_goals (try with_reducible rfl)
    (try simp only [Act.put, List.setIfInBounds_toArray, List.set_cons_zero, List.set_cons_succ])
    refine wpAnyH_take (i := 4) (oi := ⟨some 15, _, _, _, _, _⟩) (v := ?_) rfl (by kernel_rfl) (by kernel_rfl) (by kernel_rfl) (fun _ _ _ h => h) (Or.inl ⟨by rfl, ?_⟩) (by assumption) ?_
    rotate_left
    · intro w hSw
      (try dsimp only at hSw)
      go_simp
      all_goals (try with_reducible rfl)
    (try simp only [Act.put, List.setIfInBounds_toArray, List.set_cons_zero, List.set_cons_succ])
    refine wpAnyH_take (i := 8) (oi := ⟨some 19, _, _, _, _, _⟩) (v := ?_) rfl (by kernel_rfl) (by kernel_rfl) (by kernel_rfl) (fun _ _ _ h => h) (Or.inl ⟨by rfl, ?_⟩) (by assumption) ?_
    rotate_left
    · intro w hSw
      (try dsimp only at hSw)
      go_simp
      all_goals (try with_reducible rfl)
    (try simp only [Act.put, List.setIfInBounds_toArray, List.set_cons_zero, List.set_cons_succ])
    refine wpAnyH_take (i := 9) (oi := ⟨some 20, _, _, _, _, _⟩) (v := ?_) rfl (by kernel_rfl) (by kernel_rfl) (by kernel_rfl) (fun _ _ _ h => h) (Or.inl ⟨by rfl, ?_⟩) (by assumption) ?_
    rotate_left
    · intro w hSw
      (try dsimp only at hSw)
      go_simp
      all_goals (try with_reducible rfl)
    (try simp only [Act.put, List.setIfInBounds_toArray, List.set_cons_zero, List.set_cons_succ])
    refine wpAnyH_take (i := 10) (oi := ⟨some 21, _, _, _, _, _⟩) (v := ?_) rfl (by kernel_rfl) (by kernel_rfl) (by kernel_rfl) (fun _ _ _ h => h) (Or.inl ⟨by rfl, ?_⟩) (by assumption) ?_
    rotate_left
    · intro w hSw
      (try dsimp only at hSw)
      go_simp
      all_goals (try with_reducible rfl)
    (try simp only [Act.put, List.setIfInBounds_toArray, List.set_cons_zero, List.set_cons_succ])
    refine wpAnyH_take (i := 11) (oi := ⟨some 22, _, _, _, _, _⟩) (v := ?_) rfl (by kernel_rfl) (by kernel_rfl) (by kernel_rfl) (fun _ _ _ h => h) (Or.inl ⟨by rfl, ?_⟩) (by assumption) ?_
    rotate_left
    · intro w hSw
      (try dsimp only at hSw)
      go_simp
      all_goals (try with_reducible rfl)
    (try simp only [Act.put, List.setIfInBounds_toArray, List.set_cons_zero, List.set_cons_succ])
    refine wpAnyH_ready (rs := [1]) (by kernel_rfl) (by simp) ?_
    refine AllReadyH.cons (o := ⟨some 12, _, _, _, _, _⟩) rfl (fun K hK => ?_) AllReadyH.nil
    go_simp
    refine (ref_rlen_any c.b c.s c.l _ HB.out).mono ?_
    rintro e w9 ⟨rfl, hO⟩
    have HO8 := Lib.hid (HO7.out.trans' hO)
    have HX8 := Lib.hid (HX7.out.keep0 hO)
    clear hO
    refine hK.out _ _ ⟨HX8.out.cell 0 (by simp), HX8.out.cell 1 (by simp), HX8.out.cell 2 (by simp)⟩ (fun hSn => ?_)
    clear hK K hSw0
    have hSw0 := hSn
    clear hSn
    (try simp only [Act.put, List.setIfInBounds_toArray, List.set_cons_zero, List.set_cons_succ])
    refine wpAnyH_take (i := 2) (oi := ⟨some 13, _, _, _, _, _⟩) (v := ?_) rfl (by kernel_rfl) (by kernel_rfl) (by kernel_rfl) (fun _ _ _ h => h) (Or.inl ⟨by rfl, ?_⟩) (by assumption) ?_
    rotate_left
    · intro w hSw
      (try dsimp only at hSw)
      go_simp
      all_goals (try with_reducible rfl)
    (try simp only [Act.put, List.setIfInBounds_toArray, List.set_cons_zero, List.set_cons_succ])
    refine wpAnyH_take (i := 3) (oi := ⟨some 14, _, _, _, _, _⟩) (v := ?_) rfl (by kernel_rfl) (by kernel_rfl) (by kernel_rfl) (fun _ _ _ h => h) (Or.inl ⟨by rfl, ?_⟩) (by assumption) ?_
    rotate_left
    · intro w hSw
      (try dsimp only at hSw)
      go_simp
      all_goals (try with_reducible rfl)
    (try simp only [Act.put, List.setIfInBounds_toArray, List.set_cons_zero, List.set_cons_succ])
    refine wpAnyH_ready (rs := [5]) (by kernel_rfl) (by simp) ?_
    refine AllReadyH.cons (o := ⟨some 16, _, _, _, _, _⟩) rfl (fun K hK => ?_) AllReadyH.nil
    go_simp
    refine (ref_pages_any c.b c.s c.l _ HB.out).mono ?_
    rintro e w10 ⟨rfl, hO⟩
    have HO9 := Lib.hid (HO8.out.trans' hO)
    have HX9 := Lib.hid (HX8.out.keep0 hO)
    clear hO
    refine hK.out _ _ ⟨HX9.out.cell 0 (by simp), HX9.out.cell 1 (by simp), HX9.out.cell 2 (by simp)⟩ (fun hSn => ?_)
    clear hK K hSw0
    have hSw0 := hSn
    clear hSn
    (try simp only [Act.put, List.setIfInBounds_toArray, List.set_cons_zero, List.set_cons_succ])
    refine wpAnyH_take (i := 6) (oi := ⟨some 17, _, _, _, _, _⟩) (v := ?_) rfl (by kernel_rfl) (by kernel_rfl) (by kernel_rfl) (fun _ _ _ h => h) (Or.inl ⟨by rfl, ?_⟩) (by assumption) ?_
    rotate_left
    · intro w hSw
      (try dsimp only at hSw)
      go_simp
      all_goals (try with_reducible rfl)
    (try simp only [Act.put, List.setIfInBounds_toArray, List.set_cons_zero, List.set_cons_succ])
    refine wpAnyH_take (i := 7) (oi := ⟨some 18, _, _, _, _, _⟩) (v := ?_) rfl (by kernel_rfl) (by kernel_rfl) (by kernel_rfl) (fun _ _ _ h => h) (Or.inl ⟨by rfl, ?_⟩) (by assumption) ?_
    rotate_left
    · intro w hSw
      (try dsimp only at hSw)
      go_simp
      all_goals (try with_reducible rfl)
    (try simp only [Act.put, List.setIfInBounds_toArray, List.set_cons_zero, List.set_cons_succ])
    refine wpAnyH_take (i := 12) (oi := ⟨some 23, _, _, _, _, _⟩) (v := ?_) rfl (by kernel_rfl) (by kernel_rfl) (by kernel_rfl) (fun _ _ _ h => h) (Or.inl ⟨by rfl, ?_⟩) (by assumption) ?_
    rotate_left
    · intro w hSw
      (try dsimp only at hSw)
      go_simp
      all_goals (try with_reducible rfl)
    (try simp only [Act.put, List.setIfInBounds_toArray, List.set_cons_zero, List.set_cons_succ])
    refine wpAnyH_take (i := 13) (oi := ⟨some 4, _, _, _, _, _⟩) (v := ?_) rfl (by kernel_rfl) (by kernel_rfl) (by kernel_rfl) (fun _ _ _ h => h) (Or.inl ⟨by rfl, ?_⟩) (by assumption) ?_
    rotate_left
    · intro w hSw
      (try dsimp only at hSw)
      go_simp
      all_goals (try with_reducible rfl)
    (try simp only [Act.put, List.setIfInBounds_toArray, List.set_cons_zero, List.set_cons_succ])
    refine wpAnyH_done (by kernel_rfl) ?_ _
    clear hSw0
    go_wp2
    go_ret
    exact ⟨rfl, HO9.out⟩
  · have e : c.at_ k = -1 := by unfold Cf.at_; rw [if_neg hk]
    rw [e]
    have HK := Lib.hid (decide_eq_false hk)
    clear hb hk e
    go_enter Tryz.func32, Tryz.ntmps32
    go_wp2_with fail
    refine (within_any k 0 (c.s - 1) _).mono ?_
    rintro e w1 ⟨rfl, rfl⟩
    rw [HK.out]
    go_wp2
    go_ret
    exact ⟨rfl, (Only.refl _ _).alloc _⟩
theorem Cf.at0 (c : Cf) (h : c.Ok) : c.at_ 0 = 2 + 2 * rln c.s + 4 * pgs c.b := by
  unfold Cf.at_
  obtain ⟨_, hs, hl⟩ := h
  rw [if_pos (by omega)]
  omega
set_option maxRecDepth 100000 in
set_option maxHeartbeats 4000000 in
theorem ref_sectors_any (c : Cf) (w : World) (hb : c.Ok) :
    Calls Tryz.prog 77 #[.agg #[.int .i64 c.b, .int .i64 c.s, .int .i64 c.l]] w fun e w' => e = .returned (.int .i64 c.sectors) ∧ Only [] w w' := by
  have HB := Lib.hid hb
  have hss : 8 ≤ c.s ∧ c.s ≤ 32 := hb.2.1
  obtain ⟨m1, m2⟩ := Cf.prod c hb c.s (by omega) (by omega)
  have h1 := rln_bounds hb
  have h2 := pgs_bounds hb
  have h3 := Cf.at0 c hb
  have hw1 := IntWalk.i64_in (c.s * c.l) (by omega)
  have hw2 := IntWalk.i64_in (c.at_ 0 + c.s * c.l) (by omega)
  have hE : c.sectors = c.at_ 0 + c.s * c.l := by rw [h3]; rfl
  have HE := Lib.hid hE
  obtain ⟨Q, hQ⟩ : ∃ q, c.at_ 0 = q := ⟨_, rfl⟩
  rw [hQ] at hw2 HE
  have hqb : 2 ≤ Q ∧ Q ≤ 30 := by omega
  have HQ := Lib.hid hQ
  obtain ⟨hq1, hq2⟩ := hqb
  clear hb h1 h2 h3 hE hss hQ
  go_enter Tryz.func77, Tryz.ntmps77
  have ho0 := Own.new w #[.int .i64 c.b, .int .i64 c.s, .int .i64 c.l] 25
  have HX0 := Lib.hid ho0
  have HO0 := Lib.hid ((Only.refl [] w).alloc (.cells #[.int .i64 c.b, .int .i64 c.s, .int .i64 c.l] 25))
  clear ho0
  go_wp2_with fail
  generalize w.alloc (.cells #[.int .i64 c.b, .int .i64 c.s, .int .i64 c.l] 25) = wa at *
  generalize w.heap.size = fb at *
  have HX7 := Lib.hid HX0.out.drew
  have HO7 := Lib.hid HO0.out.drew
  refine wp_region_held_drew (S := fun w' => w'.cell? ⟨fb, 0, none⟩ = some (.int .i64 c.b) ∧ w'.cell? ⟨fb, 1, none⟩ = some (.int .i64 c.s) ∧ w'.cell? ⟨fb, 2, none⟩ = some (.int .i64 c.l)) (by kernel_rfl) ⟨HX7.out.cell 0 (by simp), HX7.out.cell 1 (by simp), HX7.out.cell 2 (by simp)⟩ (fun hSw0 => ?_)
  generalize wa.drew = ws at *
  refine wpAnyH_take (i := 0) (oi := ⟨some 3, _, _, _, _, _⟩) (v := ?_) rfl (by kernel_rfl) (by kernel_rfl) (by kernel_rfl) (fun _ _ _ h => h) (Or.inl ⟨by rfl, ?_⟩) (by assumption) ?_
  rotate_left
  · intro w hSw
    (try dsimp only at hSw)
    go_simp
    all_goals (try with_reducible rfl)
  (try simp only [Act.put, List.setIfInBounds_toArray, List.set_cons_zero, List.set_cons_succ])
  refine wpAnyH_take (i := 2) (oi := ⟨some 5, _, _, _, _, _⟩) (v := ?_) rfl (by kernel_rfl) (by kernel_rfl) (by kernel_rfl) (fun _ _ _ h => h) (Or.inl ⟨by rfl, ?_⟩) (by assumption) ?_
  rotate_left
  · intro w hSw
    (try dsimp only at hSw)
    go_simp
    all_goals (try with_reducible rfl)
  (try simp only [Act.put, List.setIfInBounds_toArray, List.set_cons_zero, List.set_cons_succ])
  refine wpAnyH_take (i := 3) (oi := ⟨some 6, _, _, _, _, _⟩) (v := ?_) rfl (by kernel_rfl) (by kernel_rfl) (by kernel_rfl) (fun _ _ _ h => h) (Or.inl ⟨by rfl, ?_⟩) (by assumption) ?_
  rotate_left
  · intro w hSw
    (try dsimp only at hSw)
    go_simp
    all_goals (try with_reducible rfl)
  (try simp only [Act.put, List.setIfInBounds_toArray, List.set_cons_zero, List.set_cons_succ])
  refine wpAnyH_take (i := 4) (oi := ⟨some 7, _, _, _, _, _⟩) (v := ?_) rfl (by kernel_rfl) (by kernel_rfl) (by kernel_rfl) (fun _ _ _ h => h) (Or.inl ⟨by rfl, ?_⟩) (by assumption) ?_
  rotate_left
  · intro w hSw
    (try dsimp only at hSw)
    go_simp
    all_goals (try with_reducible rfl)
  (try simp only [Act.put, List.setIfInBounds_toArray, List.set_cons_zero, List.set_cons_succ])
  refine wpAnyH_take (i := 5) (oi := ⟨some 8, _, _, _, _, _⟩) (v := ?_) rfl (by kernel_rfl) (by kernel_rfl) (by kernel_rfl) (fun _ _ _ h => h) (Or.inl ⟨by rfl, ?_⟩) (by assumption) ?_
  rotate_left
  · intro w hSw
    (try dsimp only at hSw)
    go_simp
    all_goals (try with_reducible rfl)
  (try simp only [Act.put, List.setIfInBounds_toArray, List.set_cons_zero, List.set_cons_succ])
  refine wpAnyH_take (i := 6) (oi := ⟨some 9, _, _, _, _, _⟩) (v := ?_) rfl (by kernel_rfl) (by kernel_rfl) (by kernel_rfl) (fun _ _ _ h => h) (Or.inl ⟨by rfl, ?_⟩) (by assumption) ?_
  rotate_left
  · intro w hSw
    (try dsimp only at hSw)
    go_simp
    all_goals (try with_reducible rfl)
  (try simp only [Act.put, List.setIfInBounds_toArray, List.set_cons_zero, List.set_cons_succ])
  refine wpAnyH_ready (rs := [1]) (by kernel_rfl) (by simp) ?_
  refine AllReadyH.cons (o := ⟨some 4, _, _, _, _, _⟩) rfl (fun K hK => ?_) AllReadyH.nil
  go_simp
  refine (ref_segat_any c 0 _ HB.out).mono ?_
  rintro e w9 ⟨rfl, hO⟩
  rw [HQ.out]
  have HO8 := Lib.hid (HO7.out.trans' hO)
  have HX8 := Lib.hid (HX7.out.keep0 hO)
  clear hO
  refine hK.out _ _ ⟨HX8.out.cell 0 (by simp), HX8.out.cell 1 (by simp), HX8.out.cell 2 (by simp)⟩ (fun hSn => ?_)
  clear hK K hSw0
  have hSw0 := hSn
  clear hSn
  (try simp only [Act.put, List.setIfInBounds_toArray, List.set_cons_zero, List.set_cons_succ])
  refine wpAnyH_take (i := 7) (oi := ⟨some 10, _, _, _, _, _⟩) (v := ?_) rfl (by kernel_rfl) (by kernel_rfl) (by kernel_rfl) (fun _ _ _ h => h) (Or.inl ⟨by rfl, ?_⟩) (by assumption) ?_
  rotate_left
  · intro w hSw
    (try dsimp only at hSw)
    go_simp
    all_goals (try with_reducible rfl)
  (try simp only [Act.put, List.setIfInBounds_toArray, List.set_cons_zero, List.set_cons_succ])
  refine wpAnyH_take (i := 8) (oi := ⟨some 2, _, _, _, _, _⟩) (v := ?_) rfl (by kernel_rfl) (by kernel_rfl) (by kernel_rfl) (fun _ _ _ h => h) (Or.inl ⟨by rfl, ?_⟩) (by assumption) ?_
  rotate_left
  · intro w hSw
    (try dsimp only at hSw)
    go_simp
    all_goals (try with_reducible rfl)
  (try simp only [Act.put, List.setIfInBounds_toArray, List.set_cons_zero, List.set_cons_succ])
  refine wpAnyH_done (by kernel_rfl) ?_ _
  clear hSw0
  go_wp2
  go_ret
  exact ⟨by rw [HE.out]; rfl, HO8.out⟩
end Go.Proofs.YtgcfdjcpcclcjaaGreat
namespace Go.Kn
open Go Go.RowKit
def Ps.head (p : Ps) : It := ⟨p.s, p.m, p.l, p.p⟩
def headB (p : Ps) : List UInt8 := sealed (headRow p.head)
theorem headB_length (p : Ps) : (headB p).length = 64 := sealed_length _ (headRow_length _)
theorem headB_enc {p : Ps} (h : headMay p.head = true) : encHead p.head = some (headB p) := by unfold encHead; rw [if_pos h]; rfl
theorem encOwn_some {w w' : World} {bs : List UInt8} {e : Ending} (h : EncOwn w (some bs) e w') : ∃ g c, e = .returned (.tuple #[.slice (some ⟨g, 0, none⟩) bs.length c, .int .i64 0]) ∧ bs.length ≤ c ∧ c ≤ maxLen ∧ w.heap.size ≤ g ∧ Own w' g (bvs bs) ∧ Only [] w w' := by
  rcases h with ⟨h, _⟩ | ⟨bs', g, c, h, rest⟩
  · cases h
  · injection h with h
    subst h
    exact ⟨g, c, rest⟩
end Go.Kn
namespace Go.Proofs.YtgcfdjcpcclcjaaGreat
open Go Go.RowKit Go.Kn
/-- the frame of both disks comes to the front -/
theorem Duo.fr {w0 w : World} {p : PD} {r : RD} {d e : Dk} {c : Fr3} (h : Duo w0 w p r d e c) : ∃ L0 G0 F0, Wc w0 w (c.L ++ L0) (c.G ++ G0) (c.F ++ F0) ∧ ∀ w' (c' : Fr3), Wc w0 w' (c'.L ++ L0) (c'.G ++ G0) (c'.F ++ F0) → Duo w0 w' p r d e c' := by
  obtain ⟨v, v', lv, k, ls, sl, hs, hl, hm⟩ := h.mem
  have pl : ∀ L, (p.L v d (r.L v' lv sl e L)).Perm (L ++ p.L v d (r.L v' lv sl e [])) := fun L => by
    have := List.perm_append_comm (l₁ := p.L v d (r.L v' lv sl e [])) (l₂ := L)
    simpa [PD.L, RD.L] using this
  have pg : ∀ (a b x : Gs) G, (a :: b :: x :: G).Perm (G ++ [a, b, x]) := fun a b x G => by
    have := List.perm_append_comm (l₁ := [a, b, x]) (l₂ := G)
    simpa using this
  refine ⟨p.L v d (r.L v' lv sl e []), [⟨158, 65, v, d.held.length, heldV d.held⟩, ⟨175, 2, v', e.held.length, heldR e.held hs⟩, ⟨47, 1, lv, k, ls⟩], [(fun W => Bls W sl e.safe), (fun W => Bls W hs (e.held.map (·.2)))], ?_, fun w' c' h' => ?_⟩
  · refine (hm.perm (pl _) (pg _ _ _ _)).subF ?_
    intro f hf
    rcases List.mem_append.1 hf with hf | hf
    · exact List.mem_cons_of_mem _ (List.mem_cons_of_mem _ hf)
    · simp only [List.mem_cons, List.not_mem_nil, or_false] at hf ⊢
      rcases hf with hf | hf
      · exact .inl hf
      · exact .inr (.inl hf)
  · refine ⟨h.ok, h.N, h.hs, h.hn, h.hf, h.ok', h.N', h.hs', h.hf', v, v', lv, k, ls, sl, hs, hl, (h'.perm (pl _).symm (pg _ _ _ _).symm).subF ?_⟩
    intro f hf
    simp only [List.mem_cons] at hf
    rcases hf with hf | hf | hf
    · exact List.mem_append.2 (.inr (by simp [hf]))
    · exact List.mem_append.2 (.inr (by simp [hf]))
    · exact List.mem_append.2 (.inl hf)
theorem Duo.addFc {w0 w w' : World} {p : PD} {r : RD} {d e : Dk} {c : Fr3} (h : Duo w0 w p r d e c) (hO : Only [] w w') {f : World → Prop} (hf : Fc w' (fun k => k < w.heap.size) f) : Duo w0 w' p r d e ⟨c.L, c.G, f :: c.F⟩ := by
  obtain ⟨L0, G0, F0, hw, back⟩ := h.fr
  exact back w' ⟨c.L, c.G, f :: c.F⟩ (hw.addFc hO hf)
theorem Duo.newB {w0 w : World} {p : PD} {r : RD} {d e : Dk} {c : Fr3} (h : Duo w0 w p r d e c) (cs : Array Value) (t : TypeId) {b : Nat} (hb : w.heap.size = b) : Duo w0 (w.alloc (.cells cs t)) p r d e ⟨(b, cs.toList) :: c.L, c.G, c.F⟩ := by
  obtain ⟨L0, G0, F0, hw, back⟩ := h.fr
  exact back _ ⟨(b, cs.toList) :: c.L, c.G, c.F⟩ (hw.newB cs t hb)
theorem Duo.ldrop {w0 w : World} {p : PD} {r : RD} {d e : Dk} {x : Nat × List Value} {L : List (Nat × List Value)} {G : List Gs} {F : List (World → Prop)} (h : Duo w0 w p r d e ⟨x :: L, G, F⟩) : Duo w0 w p r d e ⟨L, G, F⟩ := by
  obtain ⟨L0, G0, F0, hw, back⟩ := h.fr
  exact back _ ⟨L, G, F⟩ hw.ldrop
theorem Duo.box {w0 w : World} {p : PD} {r : RD} {d e : Dk} {c : Fr3} (h : Duo w0 w p r d e c) {x : Nat × List Value} (hx : x ∈ c.L) : Kn.Own w x.1 x.2 := by
  obtain ⟨L0, G0, F0, hw, back⟩ := h.fr
  exact hw.own x (List.mem_append.2 (.inl hx))
theorem Duo.only {w0 w : World} {p : PD} {r : RD} {d e : Dk} {c : Fr3} (h : Duo w0 w p r d e c) : Only [] w0 w := by
  obtain ⟨L0, G0, F0, hw, back⟩ := h.fr
  exact hw.only
set_option maxRecDepth 100000 in
set_option maxHeartbeats 4000000 in
theorem kit_head_any (w0 w : World) (p : PD) (r : RD) (d : Dk) (c : Fr3) (cf : Cf) (q : Ps) (h : Duo w0 w p r d d c) (hc : cf.Ok) (hq : headMay q.head = true) (hs : q.s ≤ cf.s - 1) (hh : d.held.length ≤ 1000) :
    Calls Tryz.prog 16 #[.pointer (some ⟨p.D, 0, none⟩), .pointer (some ⟨r.M, 0, none⟩), .agg #[.int .i64 cf.b, .int .i64 cf.s, .int .i64 cf.l], .agg #[.int .i64 q.s, .int .i64 q.o, .int .i64 q.l, .int .i64 q.p, .int .i64 q.m]] w fun e w' => e = .returned (.bool true) ∧ Duo w0 w' p r (d.puts (cf.at_ q.s) (headB q)) (d.puts (cf.at_ q.s) (headB q)) c := by
  have H := Lib.hid ((h.newB #[.int .i64 cf.b, .int .i64 cf.s, .int .i64 cf.l] 25 rfl).newB #[.int .i64 q.s, .int .i64 q.o, .int .i64 q.l, .int .i64 q.p, .int .i64 q.m] 32 rfl)
  have HC := Lib.hid hc
  have HQ := Lib.hid hq
  have hs0 : 0 ≤ q.s := by
    have := hq
    unfold headMay at this
    simp only [Bool.and_eq_true, decide_eq_true_eq] at this
    exact this.1.1.1.1
  obtain ⟨m1, m2⟩ := Cf.prod cf hc q.s hs0 (by omega)
  have hat : 0 ≤ cf.at_ q.s ∧ cf.at_ q.s ≤ 100000 := by
    have h1 := rln_bounds hc
    have h2 := pgs_bounds hc
    unfold Cf.at_
    rw [if_pos ⟨hs0, hs⟩]
    omega
  have HAT := Lib.hid hat
  have HES := Lib.hid (headB_enc hq)
  clear h hc hq hat
  go_enter Tryz.func16, Tryz.ntmps16
  go_wp2_with fail
  generalize (w.alloc (.cells #[.int .i64 cf.b, .int .i64 cf.s, .int .i64 cf.l] 25)).alloc (.cells #[.int .i64 q.s, .int .i64 q.o, .int .i64 q.l, .int .i64 q.p, .int .i64 q.m] 32) = wa at *
  have hsz : (w.alloc (.cells #[.int .i64 cf.b, .int .i64 cf.s, .int .i64 cf.l] 25)).heap.size = w.heap.size + 1 := by simp
  rw [hsz] at H
  clear hsz
  generalize w.heap.size = fb at *
  generalize fb + 1 = fq at *
  refine (ref_head_enc_own q.s q.m q.l q.p _).mono ?_
  rintro e w2 hen
  rw [show (⟨q.s, q.m, q.l, q.p⟩ : It) = q.head from rfl, HES.out] at hen
  obtain ⟨g, cc, rfl, hcc, hcm, hg, hown, hO⟩ := encOwn_some hen
  rw [headB_length] at hcc
  have hD := H.out.addFc hO (f := fun W => Bys W (some ⟨g, 0, none⟩) 64 cc (headB q)) (Row1.fc (Row1.of_Own hown (by rw [bvs_length, headB_length]) hcc hcm) (fun _ a ha => by injection ha with ha; subst ha; simp; omega))
  have HD := Lib.hid hD
  have b1 := hD.box (x := (fb, [.int .i64 cf.b, .int .i64 cf.s, .int .i64 cf.l])) (by simp)
  have b2 := hD.box (x := (fq, [.int .i64 q.s, .int .i64 q.o, .int .i64 q.l, .int .i64 q.p, .int .i64 q.m])) (by simp)
  have x0 := b1.cell 0 (by simp)
  have x1 := b1.cell 1 (by simp)
  have x2 := b1.cell 2 (by simp)
  have y0 := b2.cell 0 (by simp)
  simp only [List.getElem_cons_zero, List.getElem_cons_succ] at x0 x1 x2 y0
  rw [headB_length]
  clear H hen hown hO hD b1 b2 hg
  go_wp2_with fail
  refine (ref_segat_any cf q.s _ HC.out).mono ?_
  rintro e w3 ⟨rfl, hO⟩
  have HD2 := Lib.hid (HD.out.keep0 hO)
  clear hO HD x0 x1 x2 y0
  go_wp2_with fail
  refine (kit_put_any w0 _ p r d _ (cf.at_ q.s) (some ⟨g, 0, none⟩) 64 cc (headB q) HD2.out List.mem_cons_self hh (by decide) (by have := HAT.out; omega)).mono ?_
  rintro e w4 ⟨rfl, hd⟩
  have HD3 := Lib.hid (Duo.subF hd.ldrop.ldrop (F' := c.F) (fun f hf => List.mem_cons_of_mem _ hf))
  clear hd HD2
  go_wp2
  go_ret
  exact ⟨rfl, HD3.out⟩
end Go.Proofs.YtgcfdjcpcclcjaaGreat
namespace Go.Kn
open Go Go.RowKit
/-- Wc; since w1 the non-cells lie as they lay -/
structure Wk (w0 w1 w : World) (L : List (Nat × List Value)) (G : List Gs) (F : List (World → Prop)) : Prop extends Wc w0 w L G F where
  kb : Kb w1.heap.size w1 w
section
variable {w0 w1 w w' : World} {L L' : List (Nat × List Value)} {G G' : List Gs} {F F' : List (World → Prop)}
theorem Wk.hs (h : Wk w0 w1 w L G F) : w1.heap.size ≤ w.heap.size := h.kb.size
theorem Wk.start (h : Wc w0 w L G F) : Wk w0 w w L G F := ⟨h, Kb.refl _ _⟩
theorem Wk.to (h : Wk w0 w1 w L G F) (g : Wc w0 w' L' G' F') (hk : Kb w1.heap.size w w') : Wk w0 w1 w' L' G' F' := ⟨g, h.kb.trans hk⟩
theorem Wk.same (h : Wk w0 w1 w L G F) (g : Wc w0 w L' G' F') : Wk w0 w1 w L' G' F' := ⟨g, h.kb⟩
theorem kb_only0 {B : Nat} (hO : Only [] w w') : Kb B w w' := Kb.of_only hO (by simp)
theorem Wk.keep0 (h : Wk w0 w1 w L G F) (hO : Only [] w w') : Wk w0 w1 w' L G F := h.to (h.toWc.keep0 hO) (kb_only0 hO)
theorem Wk.drew (h : Wk w0 w1 w L G F) : Wk w0 w1 w.drew L G F := h.keep0 (Only.refl _ _).drew
theorem Wk.drewN (h : Wk w0 w1 w L G F) (n : Nat) : Wk w0 w1 (w.drewN n) L G F := h.keep0 ((Only.refl _ _).drewN n)
theorem Wk.alloc (h : Wk w0 w1 w L G F) (o : Obj) : Wk w0 w1 (w.alloc o) L G F := h.keep0 ((Only.refl _ _).alloc o)
theorem Wk.newB (h : Wk w0 w1 w L G F) (cs : Array Value) (t : TypeId) {b : Nat} (hb : w.heap.size = b) : Wk w0 w1 (w.alloc (.cells cs t)) ((b, cs.toList) :: L) G F := h.to (h.toWc.newB cs t hb) (kb_only0 ((Only.refl _ _).alloc _))
theorem Wk.call1 (h : Wk w0 w1 w L G F) (i : Nat) {p : Nat} {cs cs' : List Value} (hi : L[i]? = some (p, cs)) (ho : Own w' p cs') (hO : Only [p] w w') : Wk w0 w1 w' (L.set i (p, cs')) G F :=
  h.to (h.toWc.call1 i hi ho hO) (Kb.of_only hO (by
    intro k hk o hq
    rw [List.mem_singleton] at hk
    subst hk
    exact (h.toWc.boxi i hi).isCells o hq))
theorem Wk.put (h : Wk w0 w1 w L G F) (i : Nat) {p : Nat} {cs : List Value} (hi : L[i]? = some (p, cs)) (j : Nat) (u : Value) : Wk w0 w1 (w.setCell ⟨p, j, none⟩ u) (L.set i (p, cs.set j u)) G F :=
  h.to (h.toWc.put i hi j u) (Kb.of_only ((Only.refl [p] w).set (.inl (by simp)) u) (by
    intro k hk o hq
    rw [List.mem_singleton] at hk
    subst hk
    exact (h.toWc.boxi i hi).isCells o hq))
theorem Wk.gapp (h : Wk w0 w1 w L G F) (i : Nat) {x : Gs} (hi : G[i]? = some x) {v' : Value} {n' : Nat} {ys : List Value} (ho : w'.ownsRow w0.heap.size x.e x.sz v' n' ys) (hg : w.grownBy w' x.v.ownBlock) (hat : v'.ownBlock = x.v.ownBlock ∨ v'.ownBlock = some w.heap.size) :
    Wk w0 w1 w' L (G.set i ⟨x.e, x.sz, v', n', ys⟩) F :=
  h.to (h.toWc.gapp i hi ho hg hat) ⟨hg.size, by
    intro k o _ hk hc
    have hlt := lt_of_obj hk
    by_cases hm : x.v.ownBlock = some k
    · have := h.toWc.cellsBlock (.inr ⟨x, List.mem_of_getElem? hi, hm⟩) o hk
      rw [this] at hc
      cases hc
    · rw [← hk]
      exact hg.block k hlt (fun e => hm e.symm)⟩
theorem Wk.addFc (h : Wk w0 w1 w L G F) (hO : Only [] w w') {f : World → Prop} (hf : Fc w' (fun k => k < w.heap.size) f) : Wk w0 w1 w' L G (f :: F) := h.to (h.toWc.addFc hO hf) (kb_only0 hO)
theorem Wk.sub (h : Wk w0 w1 w L G F) {L' : List (Nat × List Value)} {F' : List (World → Prop)} (hL : L'.Sublist L) (hF : ∀ f ∈ F', f ∈ F) : Wk w0 w1 w L' G F' := h.same (h.toWc.sub hL hF)
theorem Wk.perm (h : Wk w0 w1 w L G F) (hL : L.Perm L') (hG : G.Perm G') : Wk w0 w1 w L' G' F := h.same (h.toWc.perm hL hG)
theorem Wk.subG (h : Wk w0 w1 w L G F) (hG : G'.Sublist G) : Wk w0 w1 w L G' F := h.same (h.toWc.subG hG)
theorem Wk.subF (h : Wk w0 w1 w L G F) {F' : List (World → Prop)} (hF : ∀ f ∈ F', f ∈ F) : Wk w0 w1 w L G F' := h.same (h.toWc.subF hF)
theorem Wk.gdrop {g : Gs} (h : Wk w0 w1 w L (g :: G) F) : Wk w0 w1 w L G F := h.same h.toWc.gdrop
theorem Wk.ldrop {x : Nat × List Value} (h : Wk w0 w1 w (x :: L) G F) : Wk w0 w1 w L G F := h.same h.toWc.ldrop
end
end Go.Kn
namespace Go.Proofs.YtgcfdjcpcclcjaaGreat
open Go Go.RowKit Go.Kn
structure DskRd (w : World) (p : PD) (d : Dk) : Prop where
  ok : d.Ok
  N : d.safe.length = p.N
  D_ : ∃ v, Kn.Own w p.D (p.box v d)
  n_ : Kn.Own w p.n (flat d.now)
  f_ : Kn.Own w p.f (bls d.faults)
/-- the disk is among some boxes -/
structure DkIn (p : PD) (d : Dk) (L : List (Nat × List Value)) : Prop where
  ok : d.Ok
  N : d.safe.length = p.N
  D_ : ∃ v, (p.D, p.box v d) ∈ L
  n_ : (p.n, flat d.now) ∈ L
  f_ : (p.f, bls d.faults) ∈ L
theorem DkIn.rd {w : World} {p : PD} {d : Dk} {L L' : List (Nat × List Value)} (h : DkIn p d L) (hw : ∀ x ∈ L', Kn.Own w x.1 x.2) (hL : ∀ x ∈ L, x ∈ L') : DskRd w p d :=
  ⟨h.ok, h.N, by obtain ⟨v, hv⟩ := h.D_; exact ⟨v, hw _ (hL _ hv)⟩, hw _ (hL _ h.n_), hw _ (hL _ h.f_)⟩
theorem DkIn.mono {p : PD} {d : Dk} {L L' : List (Nat × List Value)} (h : DkIn p d L) (hL : ∀ x ∈ L, x ∈ L') : DkIn p d L' := ⟨h.ok, h.N, by obtain ⟨v, hv⟩ := h.D_; exact ⟨v, hL _ hv⟩, hL _ h.n_, hL _ h.f_⟩
theorem dk_has_rd (w : World) (p : PD) (d : Dk) (a : Int) (h : DskRd w p d) :
    Calls Tryz.prog 83 #[.pointer (some ⟨p.D, 0, none⟩), .int .i64 a] w fun e w' => e = .returned (.bool (d.has a)) ∧ w = w' := by
  obtain ⟨v, hb⟩ := h.D_
  have c1 := hb.cell 1 (by simp [PD.box])
  have hN := h.N
  have hn := h.ok.n
  have hlt : decide (a < (p.N : Int)) = decide (a < (d.safe.length : Int)) := by rw [hN]
  simp only [PD.box, List.getElem_cons_zero, List.getElem_cons_succ] at c1
  have HN := Lib.hid hN
  have hn' : 1 ≤ p.N ∧ p.N ≤ 4096 := by omega
  obtain ⟨hn1, hn2⟩ := hn'
  clear hb hN hn hlt h
  go_enter Tryz.func83, Tryz.ntmps83
  by_cases h1 : 0 ≤ a <;> by_cases h2 : a < (p.N : Int) <;>
  (go_wp2
   go_ret
   exact ⟨by unfold Dk.has; rw [HN.out]; simp [*], rfl⟩)
set_option maxRecDepth 100000 in
set_option maxHeartbeats 4000000 in
theorem dk_read_rd (w : World) (p : PD) (d : Dk) (a : Int) (h : DskRd w p d) :
    Calls Tryz.prog 23 #[.pointer (some ⟨p.D, 0, none⟩), .int .i64 a] w (RdSays w (d.read a) (d.err a)) := by
  obtain ⟨v, hbx⟩ := h.D_
  have c1 := hbx.cell 1 (by simp [PD.box])
  have c3 := hbx.cell 3 (by simp [PD.box])
  have c6 := hbx.cell 6 (by simp [PD.box])
  simp only [PD.box, List.getElem_cons_zero, List.getElem_cons_succ] at c1 c3 c6
  have hfb := h.f_
  have hnb := h.n_
  have H := Lib.hid h
  have hN := h.N
  have hF := h.ok.f
  have hn := h.ok.n
  by_cases ho : d.has a = true
  · have hr : 0 ≤ a ∧ a < (p.N : Int) := by unfold Dk.has at ho; simp only [decide_eq_true_eq] at ho; omega
    obtain ⟨k, rfl⟩ : ∃ k : Nat, a = k := ⟨a.toNat, by omega⟩
    have hkN : k < p.N := by omega
    have hN1 : 1 ≤ p.N ∧ p.N ≤ 4096 := by omega
    obtain ⟨hN1, hN2⟩ := hN1
    have HO := Lib.hid ho
    by_cases hof : d.off = true
    · have e1 : d.err k = 3 := by unfold Dk.err; rw [if_pos ho, if_pos hof]
      have e2 : d.read k = [] := by unfold Dk.read; rw [e1]; rfl
      rw [e1, e2]
      rw [hof] at c6
      clear hbx hfb hnb h hN hF hn ho hof e1 e2 c1 c3
      go_enter Tryz.func23, Tryz.ntmps23
      go_wp2_with fail
      refine (dk_has_rd w p d k H.out).mono ?_
      rintro e w1 ⟨rfl, rfl⟩
      rw [HO.out]
      go_wp2
      go_ret2
      exact RdSays.none _ _
    · rw [Bool.not_eq_true] at hof
      have hbl : k < (bls d.faults).length := by rw [bls_length]; omega
      have q0 := hfb.cell k hbl
      have hbg : (bls d.faults)[k] = .bool (d.bad k) := by
        unfold Dk.bad
        rw [bls_get, List.getD_eq_getElem?_getD, show ((k : Int)).toNat = k from by omega, List.getElem?_eq_getElem (by omega), Option.getD_some]
      rw [hbg] at q0
      rw [hof] at c6
      by_cases hb : d.bad k = true
      · have e1 : d.err k = 4 := by unfold Dk.err; rw [if_pos ho, if_neg (by simp [hof]), if_pos hb]
        have e2 : d.read k = [] := by unfold Dk.read; rw [e1]; rfl
        rw [e1, e2]
        rw [hb] at q0
        clear hbx hfb hnb h hN hF hn ho hof e1 e2 c1 hbg hbl hb
        go_enter Tryz.func23, Tryz.ntmps23
        go_wp2_with fail
        refine (dk_has_rd w p d k H.out).mono ?_
        rintro e w1 ⟨rfl, rfl⟩
        rw [HO.out]
        go_wp2
        go_ret2
        exact RdSays.none _ _
      · rw [Bool.not_eq_true] at hb
        have e1 : d.err k = 0 := by unfold Dk.err; rw [if_pos ho, if_neg (by simp [hof]), if_neg (by simp [hb])]
        have e2 : d.read k = d.sector k := by unfold Dk.read; rw [if_pos e1]
        rw [e1, e2]
        rw [hb] at q0
        have hkl : k < d.now.length := by rw [Dk.now_length]; omega
        have hsec : d.sector k = d.now[k] := by
          unfold Dk.sector
          rw [List.getD_eq_getElem?_getD, show ((k : Int)).toNat = k from by omega, List.getElem?_eq_getElem hkl, Option.getD_some]
        have hrow := Row1.subrow (n := 0) (o := 64 * k) (m := 64) (c := 64) hnb (by rw [flat_length _ h.ok.now64, Dk.now_length]; omega) (Nat.le_refl _) (by simp [maxLen])
        rw [flat_cut _ h.ok.now64 k hkl, ← hsec, Nat.mul_comm 64 k] at hrow
        have hsl := Dk.sector_64 h.ok ho
        have HR := Lib.hid hrow
        clear hbx hfb hnb h hN hF hn ho hof e1 e2 hbg hbl hb hrow hsec hkl
        go_enter Tryz.func23, Tryz.ntmps23
        go_wp2_with fail
        refine (dk_has_rd w p d k H.out).mono ?_
        rintro e w1 ⟨rfl, rfl⟩
        rw [HO.out]
        go_wp2_with fail
        refine (clone_any _ 64 64 _ _ (by exact HR.out) (by decide)).mono ?_
        rintro e w1 ⟨A, cc, rfl, hcc, hcm, hpos, hO⟩
        have hfc := MadeBys.fc hcc hcm hpos
        rw [hsl] at hfc
        have HF := Lib.hid hfc
        have HO1 := Lib.hid hO
        clear hfc hpos hO
        go_wp2
        go_ret2
        exact ⟨A, _, cc, rfl, HF.out, HO1.out⟩
  · have e1 : d.err a = 1 := by unfold Dk.err; rw [if_neg ho]
    have e2 : d.read a = [] := by unfold Dk.read; rw [e1]; rfl
    rw [e1, e2]
    rw [Bool.not_eq_true] at ho
    have HO := Lib.hid ho
    clear hbx hfb hnb h hN hF hn ho e1 e2
    go_enter Tryz.func23, Tryz.ntmps23
    go_wp2_with fail
    refine (dk_has_rd w p d a H.out).mono ?_
    rintro e w1 ⟨rfl, rfl⟩
    rw [HO.out]
    go_wp2
    go_ret2
    exact RdSays.none _ _
/-- the cells of a Scan -/
def SB (D gb : Nat) (p : Ps) (own : Bool) (e : Ps) (er : Int) : List Value :=
  [.pointer (some ⟨D, 0, none⟩), .pointer (some ⟨gb, 0, none⟩), .int .i64 p.s, .int .i64 p.o, .int .i64 p.l, .int .i64 p.p, .int .i64 p.m, .bool own, .int .i64 e.s, .int .i64 e.o, .int .i64 e.l, .int .i64 e.p, .int .i64 e.m, .int .i64 er]
def ReadSays (w0 wb : World) (S D gb : Nat) (p : Ps) (own : Bool) (e : Ps) (L : List (Nat × List Value)) (G : List Gs) (F : List (World → Prop)) (b : List UInt8) (er : Int) (en : Ending) (w' : World) : Prop :=
  ∃ A n c, en = .returned (.tuple #[.slice A n c, .bool (decide (er = 0))]) ∧ Wk w0 wb w' ((S, SB D gb p own e er) :: L) G ((fun W => Bys W A n c b) :: F)
set_option maxRecDepth 100000 in
theorem scan_read_any {wb : World} (w0 w : World) (S gb : Nat) (pd : PD) (d : Dk) (p : Ps) (own : Bool) (e : Ps) (er : Int) (L : List (Nat × List Value)) (G : List Gs) (F : List (World → Prop)) (a : Int)
    (hw : Wk w0 wb w ((S, SB pd.D gb p own e er) :: L) G F) (hd : DkIn pd d L) :
    Calls Tryz.prog 183 #[.pointer (some ⟨S, 0, none⟩), .int .i64 a] w (ReadSays w0 wb S pd.D gb p own e L G F (d.read a) (d.err a)) := by
  have hb := hw.boxi 0 rfl
  have c0 := hb.cell 0 (by simp [SB])
  simp only [SB, List.getElem_cons_zero] at c0
  have H := Lib.hid hw
  have HR := Lib.hid (hd.rd hw.own (fun x hx => List.mem_cons_of_mem _ hx))
  clear hw hb hd
  go_enter Tryz.func183, Tryz.ntmps183
  go_wp2_with fail
  refine (dk_read_rd w pd d a HR.out).mono ?_
  rintro en w1 ⟨A, n, c, rfl, hfc, hO⟩
  have HW := Lib.hid (H.out.addFc hO hfc)
  have h13 := (HW.out.boxi 0 (p := S) rfl)
  have y0 := h13.cell 13 (by simp [SB])
  have f13 := h13.frozen 13
  simp only [SB, List.getElem_cons_zero, List.getElem_cons_succ] at y0
  have HE := Lib.hid (HW.out.put 0 (p := S) rfl 13 (.int .i64 (d.err a)))
  obtain ⟨z, hz⟩ : ∃ z, d.err a = z := ⟨_, rfl⟩
  rw [hz] at HE ⊢
  have HZ := Lib.hid hz
  clear hfc hO h13 H HR hz
  by_cases h0 : z = 0
  · subst h0
    go_wp2_with fail
    go_quiet (fail)
    go_wp2
    go_ret2
    rw [HZ.out]
    exact ⟨A, n, c, rfl, HE.out.drewN _⟩
  · have h1 : (z == 0) = false := by simpa using h0
    go_wp2_with fail
    go_quiet (fail)
    go_wp2
    go_ret2
    rw [HZ.out]
    exact ⟨A, n, c, by rw [decide_eq_false h0]; rfl, HE.out.drewN _⟩
theorem scan_end_any {wb : World} (w0 w : World) (S gb D : Nat) (p : Ps) (own : Bool) (e : Ps) (er : Int) (L : List (Nat × List Value)) (G : List Gs) (F : List (World → Prop))
    (hw : Wk w0 wb w ((S, SB D gb p own e er) :: L) G F) :
    Calls Tryz.prog 20 #[.pointer (some ⟨S, 0, none⟩)] w fun en w' => en = .returned (.agg #[.int .i64 e.s, .int .i64 e.o, .int .i64 e.l, .int .i64 e.p, .int .i64 e.m]) ∧ Only [] w w' := by
  have hres : Tryz.f20.results = #[.cell 2 32] := by kernel_rfl
  have HRES := Lib.hid hres
  have hb := hw.boxi 0 rfl
  have c0 := hb.cell 8 (by simp [SB])
  have c1 := hb.cell 9 (by simp [SB])
  have c2 := hb.cell 10 (by simp [SB])
  have c3 := hb.cell 11 (by simp [SB])
  have c4 := hb.cell 12 (by simp [SB])
  simp only [SB, List.getElem_cons_zero, List.getElem_cons_succ] at c0 c1 c2 c3 c4
  have hlt := hb.lt
  clear hw hb hres
  go_enter Tryz.func20, Tryz.ntmps20
  go_wp2
  (try simp only [Exit.inBlock, Exit.then])
  refine bodyPost_ret (v := .agg #[.int .i64 e.s, .int .i64 e.o, .int .i64 e.l, .int .i64 e.p, .int .i64 e.m]) ?_ rfl ⟨rfl, ?_⟩
  · simp only [results, HRES.out]
    go_simp
  · exact (Only.refl _ _).alloc _
theorem scan_err_any {wb : World} (w0 w : World) (S gb D : Nat) (p : Ps) (own : Bool) (e : Ps) (er : Int) (L : List (Nat × List Value)) (G : List Gs) (F : List (World → Prop))
    (hw : Wk w0 wb w ((S, SB D gb p own e er) :: L) G F) :
    Calls Tryz.prog 25 #[.pointer (some ⟨S, 0, none⟩)] w fun en w' => en = .returned (.int .i64 er) ∧ w = w' := by
  have hb := hw.boxi 0 rfl
  have c0 := hb.cell 13 (by simp [SB])
  simp only [SB, List.getElem_cons_zero, List.getElem_cons_succ] at c0
  clear hw hb
  go_enter Tryz.func25, Tryz.ntmps25
  go_wp2
  go_ret
  exact ⟨rfl, rfl⟩
theorem scan_err_nil (w : World) : Calls Tryz.prog 25 #[.pointer none] w fun en w' => en = .returned (.int .i64 1) ∧ w = w' := by
  go_enter Tryz.func25, Tryz.ntmps25
  go_wp2
  go_ret
  exact ⟨rfl, rfl⟩
/-- scan.New -/
def NewS (w0 wb : World) (D gb : Nat) (p : Ps) (own : Bool) (L : List (Nat × List Value)) (G : List Gs) (F : List (World → Prop)) (en : Ending) (w' : World) : Prop := ∃ S, en = .returned (.pointer (some ⟨S, 0, none⟩)) ∧ Wk w0 wb w' ((S, SB D gb p own p 0) :: L) G F
set_option maxRecDepth 100000 in
theorem scan_new_any {wb : World} (w0 w : World) (D gb : Nat) (p : Ps) (L : List (Nat × List Value)) (G : List Gs) (F : List (World → Prop)) (hw : Wk w0 wb w L G F) :
    Calls Tryz.prog 28 #[.pointer (some ⟨D, 0, none⟩), .pointer (some ⟨gb, 0, none⟩), .agg #[.int .i64 p.s, .int .i64 p.o, .int .i64 p.l, .int .i64 p.p, .int .i64 p.m]] w (NewS w0 wb D gb p false L G F) := by
  have H := Lib.hid hw
  clear hw
  go_enter Tryz.func28, Tryz.ntmps28
  go_wp2
  go_ret
  exact ⟨_, rfl, (H.out.alloc (.cells #[.int .i64 p.s, .int .i64 p.o, .int .i64 p.l, .int .i64 p.p, .int .i64 p.m] 32)).newB #[.pointer (some ⟨D, 0, none⟩), .pointer (some ⟨gb, 0, none⟩), .int .i64 p.s, .int .i64 p.o, .int .i64 p.l, .int .i64 p.p, .int .i64 p.m, .bool false, .int .i64 p.s, .int .i64 p.o, .int .i64 p.l, .int .i64 p.p, .int .i64 p.m, .int .i64 0] 147 (by simp)⟩
set_option maxRecDepth 100000 in
theorem scan_new_none (w : World) (gb : Nat) (p : Ps) :
    Calls Tryz.prog 28 #[.pointer none, .pointer (some ⟨gb, 0, none⟩), .agg #[.int .i64 p.s, .int .i64 p.o, .int .i64 p.l, .int .i64 p.p, .int .i64 p.m]] w fun en w' => en = .returned (.pointer none) ∧ Only [] w w' := by
  go_enter Tryz.func28, Tryz.ntmps28
  go_wp2
  go_ret
  exact ⟨rfl, (Only.refl _ _).alloc _⟩
set_option maxRecDepth 100000 in
theorem scan_segment_any {wb : World} (w0 w : World) (D gb : Nat) (cf : Cf) (k : Int) (L : List (Nat × List Value)) (G : List Gs) (F : List (World → Prop)) (hw : Wk w0 wb w L G F) (hg : (fun W => GeoAt W gb cf.b cf.s cf.l) ∈ F) (hc : cf.Ok) (hk : 0 ≤ k ∧ k ≤ cf.s - 1) :
    Calls Tryz.prog 18 #[.pointer (some ⟨D, 0, none⟩), .pointer (some ⟨gb, 0, none⟩), .int .i64 k] w (NewS w0 wb D gb ⟨k, 0, 0, 0, 0⟩ true L G F) := by
  have H := Lib.hid hw
  have HG := Lib.hid hg
  have HC := Lib.hid hc
  have HK := Lib.hid (decide_eq_true hk)
  clear hw hg hc hk
  go_enter Tryz.func18, Tryz.ntmps18
  go_wp2_with fail
  refine (scan_new_any w0 _ D gb ⟨k, 0, 0, 0, 0⟩ L G F H.out).mono ?_
  rintro en w1 ⟨S, rfl, hw1⟩
  have HW := Lib.hid hw1
  clear hw1
  go_wp2_with fail
  refine (geom_has_any gb cf.b cf.s cf.l k _ (HW.out.fact (fun W => GeoAt W gb cf.b cf.s cf.l) HG.out) HC.out).mono ?_
  rintro en w2 ⟨rfl, rfl⟩
  rw [HK.out]
  have h7 := (HW.out.boxi 0 (p := S) rfl)
  have y0 := h7.cell 7 (by simp [SB])
  have f7 := h7.frozen 7
  simp only [SB, List.getElem_cons_zero, List.getElem_cons_succ] at y0
  have HE := Lib.hid (HW.out.put 0 (p := S) rfl 7 (.bool true))
  clear h7
  go_wp2
  go_ret
  exact ⟨S, rfl, HE.out⟩
set_option maxRecDepth 100000 in
theorem scan_segment_none {wb : World} (w0 w : World) (D gb : Nat) (cf : Cf) (k : Int) (L : List (Nat × List Value)) (G : List Gs) (F : List (World → Prop)) (hw : Wk w0 wb w L G F) (hg : (fun W => GeoAt W gb cf.b cf.s cf.l) ∈ F) (hc : cf.Ok) (hk : ¬ (0 ≤ k ∧ k ≤ cf.s - 1)) :
    Calls Tryz.prog 18 #[.pointer (some ⟨D, 0, none⟩), .pointer (some ⟨gb, 0, none⟩), .int .i64 k] w fun en w' => en = .returned (.pointer none) ∧ Wk w0 wb w' L G F := by
  have H := Lib.hid hw
  have HG := Lib.hid hg
  have HC := Lib.hid hc
  have HK := Lib.hid (decide_eq_false hk)
  clear hw hg hc hk
  go_enter Tryz.func18, Tryz.ntmps18
  go_wp2_with fail
  refine (scan_new_any w0 _ D gb ⟨k, 0, 0, 0, 0⟩ L G F H.out).mono ?_
  rintro en w1 ⟨S, rfl, hw1⟩
  have HW := Lib.hid hw1
  clear hw1
  go_wp2_with fail
  refine (geom_has_any gb cf.b cf.s cf.l k _ (HW.out.fact (fun W => GeoAt W gb cf.b cf.s cf.l) HG.out) HC.out).mono ?_
  rintro en w2 ⟨rfl, rfl⟩
  rw [HK.out]
  go_wp2
  go_ret
  exact ⟨rfl, HW.out.ldrop⟩
end Go.Proofs.YtgcfdjcpcclcjaaGreat
namespace Go.Kn
open Go Go.RowKit
def is7 (i : It) : Bool := i.k == 7
theorem nextOf_eq (r : Rc) : nextOf r = (r.its.find? is7).map (·.v) := rfl
theorem find_at {l : List It} {j : Nat} (hj : j < l.length) (h0 : (l.take j).find? is7 = none) (h1 : is7 l[j] = true) : l.find? is7 = some l[j] := by
  have e : l = l.take j ++ l[j] :: l.drop (j + 1) := by rw [List.getElem_cons_drop, List.take_append_drop]
  have e2 : l.find? is7 = (l.take j ++ l[j] :: l.drop (j + 1)).find? is7 := congrArg _ e
  rw [e2, List.find?_append, h0, List.find?_cons, h1]
  rfl
theorem find_step {l : List It} {j : Nat} (hj : j < l.length) (h0 : (l.take j).find? is7 = none) (h1 : is7 l[j] = false) : (l.take (j + 1)).find? is7 = none := by
  rw [List.take_succ_eq_append_getElem hj, List.find?_append, h0, List.find?_cons, h1]
  rfl
def IdxSays (w : World) (l : List It) (e : Ending) (w' : World) : Prop := Only [] w w' ∧ ((l.find? is7 = none ∧ e = .returned (.int .i64 (-1))) ∨ ∃ (j : Nat) (h : j < l.length), l.find? is7 = some l[j] ∧ e = .returned (.int .i64 j))
end Go.Kn
namespace Go.Proofs.YtgcfdjcpcclcjaaGreat
open Go Go.RowKit Go.Kn Go.Shelf
theorem next1_any (k b c v : Int) (w : World) : Calls Tryz.prog 189 #[.agg #[.int .i64 k, .int .i64 b, .int .i64 c, .int .i64 v]] w fun e w' => e = .returned (.bool (k == 7)) ∧ Only [] w w' := by
  go_enter Tryz.func189, Tryz.ntmps189
  by_cases h : k = 7
  · subst h
    go_wp2
    go_ret
    exact ⟨rfl, (Only.refl _ _).alloc _⟩
  · have h1 : (k == 7) = false := by simpa using h
    go_wp2
    go_ret
    exact ⟨by simp [h], (Only.refl _ _).alloc _⟩
set_option maxRecDepth 100000 in
set_option maxHeartbeats 2000000 in
theorem next_index_any (A : Option Addr) (n c : Nat) (l : List It) (w : World) (hi : Its w A n c l) :
    Calls Tryz.prog 188 #[.slice A n c, .func (.func 189) #[] #[]] w (IdxSays w l) := by
  have hlen := hi.len
  have hcm := hi.cm
  have hcl := hi.le
  unfold maxLen at hcm
  have HI := Lib.hid hi
  have HL := Lib.hid hlen
  clear hi hlen
  have eg : ∀ args w, (callFunc 189 args).run Tryz.prog w = .ok (.enter 189 args) w := enters_of Tryz.func189 (by kernel_rfl) rfl
  go_enter Tryz.func188, Tryz.ntmps188
  go_wp2_with fail
  go_loopg [5, 8] n (fun r _ i wr => ∃ j : Nat, j + r = n ∧ i = .int .i64 j ∧ Only [] w wr ∧ (l.take j).find? is7 = none)
  case atStart => exact ⟨0, by omega, rfl, Only.refl _ _, by simp⟩
  obtain ⟨j, hj, rfl, hO, hal⟩ := hrel
  have HAL := Lib.hid hal
  have HO := Lib.hid hO
  clear hal hO
  by_cases hlt : j < n
  · have hjz : j < l.length := by rw [HL.out]; exact hlt
    obtain ⟨a, o, rfl, hc⟩ := (HI.out.keep0 HO.out).at_ (by omega)
    obtain ⟨c0, c1, c2, c3⟩ := hc j hjz
    obtain ⟨⟨ik, ib, ic, iv⟩, hit⟩ : ∃ i, l[j] = i := ⟨_, rfl⟩
    have HIT := Lib.hid hit
    rw [hit] at c0 c1 c2 c3
    simp only at c0 c1 c2 c3
    have h7 : is7 l[j] = (ik == 7) := by rw [hit]; rfl
    have H7 := Lib.hid h7
    clear hc hit h7
    have hlt2 : (j : Int) < (n : Int) := by omega
    go_wp2_with fail
    refine (next1_any ik ib ic iv _).mono ?_
    rintro e w2 ⟨rfl, hO2⟩
    have HO2 := Lib.hid (HO.out.trans' hO2)
    clear hO2 c0 c1 c2 c3
    by_cases hm : ik = 7
    · subst hm
      have H8 : Hid (is7 l[j] = true) := Lib.hid H7.out
      go_wp2
      go_ret
      exact ⟨HO2.out, .inr ⟨j, hjz, find_at hjz HAL.out H8.out, rfl⟩⟩
    · have h1 : (ik == 7) = false := by simpa using hm
      have H8 : Hid (is7 l[j] = false) := Lib.hid (by rw [H7.out, h1])
      have HM := Lib.hid hm
      clear hm
      go_wp2
      go_roundg (gk - 1)
      case measure => omega
      case rel => exact ⟨j + 1, by omega, by go_num, HO2.out, find_step hjz HAL.out H8.out⟩
  · obtain rfl : j = n := by omega
    have hfull : l.take j = l := List.take_of_length_le (by rw [HL.out]; omega)
    have hal := HAL.out
    rw [hfull] at hal
    have HAL' := Lib.hid hal
    clear hal hfull
    go_wp2
    go_ret
    exact ⟨HO.out, .inl ⟨HAL'.out, rfl⟩⟩
set_option maxRecDepth 100000 in
set_option maxHeartbeats 2000000 in
theorem rec_next_any (x : Rc) (s t : Option Addr × Nat × Nat) (w : World) (hi : Its w s.1 s.2.1 s.2.2 x.its) :
    Calls Tryz.prog 154 #[.agg (x.cells s t)] w fun e w' => e = .returned (.tuple #[.int .i64 ((nextOf x).getD 0), .bool (nextOf x).isSome]) ∧ Only [] w w' := by
  obtain ⟨s1, s2, s3⟩ := s
  obtain ⟨t1, t2, t3⟩ := t
  have hcm := hi.cm
  have hcl := hi.le
  have hlen := hi.len
  unfold maxLen at hcm
  simp only at hi hcm hcl hlen
  have HB := Lib.hid (Own.new w #[.int .i64 x.m, .int .i64 x.n, .int .i64 x.p, .slice s1 s2 s3, .slice t1 t2 t3] 56)
  have HO := Lib.hid ((Only.refl [] w).alloc (.cells #[.int .i64 x.m, .int .i64 x.n, .int .i64 x.p, .slice s1 s2 s3, .slice t1 t2 t3] 56))
  have HI := Lib.hid (hi.keep0 HO.out)
  have HL := Lib.hid hlen
  clear hi hlen
  unfold Rc.cells
  simp only [slv]
  go_enter Tryz.func154, Tryz.ntmps154
  go_wp2_with fail
  refine (next_index_any s1 s2 s3 x.its _ HI.out).mono ?_
  rintro e w2 ⟨hO2, ⟨hf, rfl⟩ | ⟨j, hj, hf, rfl⟩⟩
  · have e1 : nextOf x = none := by rw [nextOf_eq, hf]; rfl
    have E1 := Lib.hid e1
    have HO2 := Lib.hid (HO.out.trans' hO2)
    clear hf e1 hO2
    go_wp2
    go_ret2
    exact ⟨by rw [E1.out]; rfl, HO2.out⟩
  · have e1 : nextOf x = some (x.its[j]).v := by rw [nextOf_eq, hf]; rfl
    have E1 := Lib.hid e1
    have hb := HB.out.keep0 hO2
    have y3 := hb.cell 3 (by simp)
    simp only [List.getElem_cons_zero, List.getElem_cons_succ] at y3
    have hjn : j < s2 := by rw [← HL.out]; exact hj
    obtain ⟨a, o, rfl, hc⟩ := (HI.out.keep0 hO2).at_ (by omega)
    obtain ⟨c0, c1, c2, c3⟩ := hc j hj
    have HO2 := Lib.hid (HO.out.trans' hO2)
    generalize (x.its[j]).v = iv at *
    have hlt2 : (j : Int) < (s2 : Int) := by omega
    clear hf e1 hO2 hc c0 c1 c2 hb hj
    go_wp2
    go_ret2
    exact ⟨by rw [E1.out]; rfl, HO2.out⟩
end Go.Proofs.YtgcfdjcpcclcjaaGreat
namespace Go.Kn
open Go Go.RowKit
instance : DecidableEq It := fun a b => by
  obtain ⟨a1, a2, a3, a4⟩ := a
  obtain ⟨b1, b2, b3, b4⟩ := b
  exact decidable_of_iff (a1 = b1 ∧ a2 = b2 ∧ a3 = b3 ∧ a4 = b4) (by simp)
end Go.Kn
namespace Go.Proofs.YtgcfdjcpcclcjaaGreat
open Go Go.RowKit Go.Kn
@[go_sem] theorem eq_item (a b c d e f g h : Int) (w : World) : (Op.equalIn 10000 63 (.agg #[.int .i64 a, .int .i64 b, .int .i64 c, .int .i64 d]) (.agg #[.int .i64 e, .int .i64 f, .int .i64 g, .int .i64 h])).run Tryz.prog w = .ok (a == e && b == f && c == g && d == h) w := by
  have u3 := Tryz.underlying3
  have a3 := Tryz.isAgg3
  have z3 := Tryz.sizeOf3
  have hS : Tryz.prog.underlying 63 = some (.struct (Tryz.prog.fieldsOf 63)) := by kernel_rfl
  rw [show (10000 : Nat) = 9999 + 1 from rfl, run_equalIn_agg w 9999 63 _ _ hS Tryz.stoodInHeld63]
  simp only [Program.fieldsOf, Tryz.underlying63]
  go_simp
  by_cases h1 : a = e <;> by_cases h2 : b = f <;> by_cases h3 : c = g <;> by_cases h4 : d = h <;> simp [h1, h2, h3, h4]
end Go.Proofs.YtgcfdjcpcclcjaaGreat
namespace Go.Kn
open Go Go.RowKit
def kAt (x i : Nat) : UInt8 := UInt8.ofNat (x + 3 * i)
def kBlk (x : Nat) : List UInt8 := (List.range 64).map (kAt x)
def kBlkP (x t : Nat) : List UInt8 := (List.range 64).map fun k => if k < t then kAt x k else 0
theorem kBlkP_zero (x : Nat) : kBlkP x 0 = List.replicate 64 0 := by
  unfold kBlkP
  simp only [Nat.not_lt_zero, if_false]
  rfl
theorem kBlkP_full (x : Nat) : kBlkP x 64 = kBlk x := by
  unfold kBlkP kBlk
  apply List.map_congr_left
  intro k hk
  rw [if_pos (List.mem_range.1 hk)]
@[simp] theorem kBlkP_length (x t : Nat) : (kBlkP x t).length = 64 := by simp [kBlkP]
@[simp] theorem kBlk_length (x : Nat) : (kBlk x).length = 64 := by simp [kBlk]
theorem kBlkP_get (x t i : Nat) (h : i < (kBlkP x t).length) : (kBlkP x t)[i] = if i < t then kAt x i else 0 := by simp [kBlkP]
theorem kBlkP_set (x t : Nat) (ht : t < 64) : (kBlkP x t).set t (kAt x t) = kBlkP x (t + 1) := by
  apply List.ext_getElem
  · simp
  · intro i h1 h2
    rw [List.getElem_set, kBlkP_get, kBlkP_get]
    by_cases h : t = i
    · subst h
      rw [if_pos rfl, if_pos (by omega)]
    · rw [if_neg h]
      by_cases h3 : i < t
      · rw [if_pos h3, if_pos (by omega)]
      · rw [if_neg h3, if_neg (by omega)]
theorem kAt_wrap (x t : Nat) (h : x + 3 * t < 9223372036854775808) : IntKind.u8.wrap (bits .and .i64 ((x : Int) + 3 * (t : Int)) 255) = ((kAt x t).toNat : Int) := by
  have e := bits_and_i64_nat (x + 3 * t) 255 h (by omega)
  rw [show ((x + 3 * t : Nat) : Int) = (x : Int) + 3 * (t : Int) from by omega, show ((255 : Nat) : Int) = 255 from rfl] at e
  rw [e, show (255 : Nat) = 2 ^ 8 - 1 from rfl, Nat.and_two_pow_sub_one_eq_mod]
  unfold kAt
  rw [UInt8.toNat_ofNat']
  simp [IntKind.wrap, IntKind.signed, IntKind.bits]
/-- an item of kind z, the i-th -/
def kIt (z f : Int) (i : Nat) : It :=
  if z % 6 = 1 ∨ z % 6 = 5 then ⟨1 + z % 6, (f % 1000 + i) % 8, 1 + (f % 1000 + i) % 3, 0⟩
  else if z % 6 = 2 then ⟨3, 0, 0, 1 + (f % 1000 + i)⟩
  else if z % 6 = 3 then ⟨4, (f % 1000 + i) % 8, 0, 20 + (f % 1000 + i)⟩
  else ⟨1 + z % 6, (f % 1000 + i) % 8, 0, 0⟩
def kBl (z f : Int) (i : Nat) : List (List UInt8) := if z % 6 = 0 ∨ z % 6 = 3 ∨ z % 6 = 4 then [kBlk (f % 1000 + i).toNat] else []
def kIts (zs : List Int) (f : Int) : Nat → List It
  | 0 => []
  | i + 1 => kIts zs f i ++ [kIt (zs.getD i 0) f i]
def kBls (zs : List Int) (f : Int) : Nat → List (List UInt8)
  | 0 => []
  | i + 1 => kBls zs f i ++ kBl (zs.getD i 0) f i
def kItems (zs : List Int) (f : Int) : List It := if zs.length = 0 then [⟨3, 0, 0, 1⟩] else kIts zs f (min zs.length 6)
def kBlocks (zs : List Int) (f : Int) : List (List UInt8) := kBls zs f (min zs.length 6)
theorem kIts_length (zs : List Int) (f : Int) : ∀ i, (kIts zs f i).length = i
  | 0 => rfl
  | i + 1 => by rw [kIts, List.length_append, kIts_length zs f i]; rfl
/-- what Items answers -/
def ItBl (w : World) (l : List It) (bl : List (List UInt8)) (e : Ending) (w' : World) : Prop :=
  ∃ s t : Option Addr × Nat × Nat, e = .returned (.tuple #[slv s, slv t]) ∧ Fc w' (fun k => k < w.heap.size) (fun W => Its W s.1 s.2.1 s.2.2 l ∧ Blks W t.1 t.2.1 t.2.2 bl) ∧ Only [] w w'
theorem six (z : Int) : z % 6 = 0 ∨ z % 6 = 1 ∨ z % 6 = 2 ∨ z % 6 = 3 ∨ z % 6 = 4 ∨ z % 6 = 5 := by omega
end Go.Kn
namespace Go.Proofs.YtgcfdjcpcclcjaaGreat
open Go Go.RowKit Go.Kn
set_option maxRecDepth 100000 in
set_option maxHeartbeats 4000000 in
theorem kit_bytes_any (x : Nat) (w : World) (hx : x ≤ 100000) :
    Calls Tryz.prog 181 #[.int .i64 (x : Int)] w fun e w' => ∃ g, e = .returned (.slice (some ⟨g, 0, none⟩) 64 64) ∧ w.heap.size ≤ g ∧ Kn.Own w' g (bvs (kBlk x)) ∧ Only [] w w' := by
  have hmk : ∀ w : World, (Instr.makeSlice 47 (.int .i64 64) (.int .i64 64)).run Tryz.prog w = .ok (.slice (some ⟨w.heap.size, 0, none⟩) 64 64) (w.alloc (.cells (bvs (List.replicate 64 0)).toArray 5)) := make_bys 64 (by decide)
  go_enter Tryz.func181, Tryz.ntmps181
  go_wp2_with fail
  have h0 : Kn.Own (w.alloc (.cells (bvs (List.replicate 64 0)).toArray 5)) w.heap.size (bvs (kBlkP x 0)) := by
    rw [kBlkP_zero]
    exact Kn.Own.new w (bvs (List.replicate 64 0)).toArray 5
  have HO0 := Lib.hid ((Only.refl [] w).alloc (.cells (bvs (List.replicate 64 0)).toArray 5))
  have HW0 := Lib.hid h0
  clear h0 hmk
  go_loopg [4] 64 (fun r i wr => ∃ t : Nat, t + r = 64 ∧ i = .int .i64 t ∧ Kn.Own wr w.heap.size (bvs (kBlkP x t)) ∧ Only [] w wr)
  case atStart => exact ⟨0, by omega, rfl, HW0.out, HO0.out⟩
  obtain ⟨t, ht, rfl, hown, hO⟩ := hrel
  have HO := Lib.hid hO
  have HOWN := Lib.hid hown
  clear hO hown
  by_cases ht64 : t < 64
  · have q0 := HOWN.out.cell t (by simpa using ht64)
    have f0 := HOWN.out.frozen t
    have hst := HOWN.out.set t (.int .u8 ((kAt x t).toNat : Int))
    have hse : (bvs (kBlkP x t)).set t (.int .u8 ((kAt x t).toNat : Int)) = bvs (kBlkP x (t + 1)) := by
      rw [← kBlkP_set x t ht64, bvs, bvs, List.map_set]
    rw [hse] at hst
    have HST := Lib.hid hst
    have hwr := kAt_wrap x t (by omega)
    generalize (bvs (kBlkP x t))[t] = old at *
    generalize (kAt x t).toNat = cc at *
    clear hst hse
    have hx1 : (t : Int) < 64 := by omega
    have hx0 : 0 ≤ (t : Int) := by omega
    have htt : ((t : Int)).toNat = t := by omega
    have hxx : (x : Int) ≤ 100000 := by omega
    go_wp2_with fail
    go_roundg (gk - 1)
    case measure => omega
    case rel => exact ⟨t + 1, by omega, by go_num, HST.out, HO.out.set (.inr (Nat.le_refl _)) _⟩
  · obtain rfl : t = 64 := by omega
    have hown := HOWN.out
    rw [kBlkP_full] at hown
    have HF := Lib.hid hown
    go_wp2
    go_ret
    exact ⟨_, rfl, Nat.le_refl _, HF.out, HO.out⟩
theorem wc_itbl {w V : World} {L : List (Nat × List Value)} {F : List (World → Prop)} {A3 A4 : Option Addr} {j c3 kk c4 : Nat} {l : List It} {sl : List (Option Addr × Nat × Nat)} {bl : List (List UInt8)}
    (h : Wc w V L [⟨63, 4, .slice A3 j c3, j, itsV l⟩, ⟨47, 1, .slice A4 kk c4, kk, sl.map slv⟩] ((fun W => Bls W sl bl) :: F)) (hl : l.length = j) (hfr : ∀ s ∈ sl, ∀ a, s.1 = some a → w.heap.size ≤ a.block) :
    Fc V (fun k => k < w.heap.size) (fun W => Its W A3 j c3 l ∧ Blks W A4 kk c4 bl) := by
  obtain ⟨A, c, hv, hits, hb⟩ := GathN.its (h.gath (x := ⟨63, 4, .slice A3 j c3, j, itsV l⟩) List.mem_cons_self) hl
  injection hv with e1 e2 e3
  subst e1 e3
  obtain ⟨h1, h2⟩ := Row1.of_owns (h.gi 1 rfl)
  have f1 := Its.fc (M := fun k => k < w.heap.size) hits (fun h0 a ha hm => by
    subst ha
    have := (hb a.block rfl).1
    omega)
  have f2 := h1.fc (M := fun k => k < w.heap.size) (fun h0 a ha hm => by have := h2 h0 a ha; omega)
  have f3 := Bls.fc (M := fun k => k < w.heap.size) (h.fi 0 rfl) (fun s hs _ a ha hm => by have := hfr s hs a ha; omega)
  exact fun W hW => ⟨f1 W hW, sl, f2 W hW, f3 W hW⟩
theorem kIts_succ {zs : List Int} {f : Int} {j : Nat} {z : Int} (hz : zs.getD j 0 = z) {it : It} (h : kIt z f j = it) : itsV (kIts zs f j) ++ itsV [it] = itsV (kIts zs f (j + 1)) := by
  rw [← itsV_append, ← h, ← hz]
  rfl
theorem kBls_same {zs : List Int} {f : Int} {j : Nat} {z : Int} (hz : zs.getD j 0 = z) (h : kBl z f j = []) : kBls zs f (j + 1) = kBls zs f j := by
  show kBls zs f j ++ kBl (zs.getD j 0) f j = _
  rw [hz, h, List.append_nil]
theorem kBls_succ {zs : List Int} {f : Int} {j : Nat} {z : Int} (hz : zs.getD j 0 = z) {b : List UInt8} (h : kBl z f j = [b]) : kBls zs f (j + 1) = kBls zs f j ++ [b] := by
  show kBls zs f j ++ kBl (zs.getD j 0) f j = _
  rw [hz, h]
set_option maxRecDepth 100000 in
set_option maxHeartbeats 16000000 in
theorem kit_items_any (A : Option Addr) (n c : Nat) (zs : List Int) (f : Int) (w : World) (hi : Ins w A n c zs) (hwz : ∀ z ∈ zs, (Lit.int .i64 z).wf = true) (hf : (Lit.int .i64 f).wf = true) :
    Calls Tryz.prog 145 #[.slice A n c, .int .i64 f] w (ItBl w (kItems zs f) (kBlocks zs f)) := by
  obtain ⟨i0, hi0, hz0, hz1, hz2⟩ := info_parts Tryz.infoItem
  obtain ⟨i1, hi1, hy0, hy1, hy2⟩ := info_parts Tryz.infoBys
  have hlen := hi.len
  rw [ivs_length] at hlen
  have hnc := hi.le
  have hcm := hi.cm
  unfold maxLen at hcm
  have HL := Lib.hid hlen
  have HWZ := Lib.hid hwz
  have HWF := Lib.hid hf
  obtain ⟨m, hm⟩ : ∃ m, min n 6 = m := ⟨_, rfl⟩
  have hm1 : m ≤ n ∧ m ≤ 6 := by omega
  obtain ⟨hmn, hm6⟩ := hm1
  have HMM := Lib.hid hm
  have HD0 := Lib.hid (((Wc.start w).old (f := fun W => Ins W A n c zs) (Row1.fc hi (by simp))).gnew 47 1 |>.gnew 63 4)
  clear hi hlen hwz hf hm
  go_enter Tryz.func145, Tryz.ntmps145
  go_wp2_with fail
  go_loopg [6, 7, 8] m (fun r t6 t7 i wr => ∃ (j : Nat) (A3 : Option Addr) (c3 : Nat) (A4 : Option Addr) (kk c4 : Nat) (sl : List (Option Addr × Nat × Nat)), j + r = m ∧ i = .int .i64 j ∧ t6 = .slice A3 j c3 ∧ t7 = .slice A4 kk c4 ∧ kk ≤ j ∧ (∀ s ∈ sl, ∀ a, s.1 = some a → w.heap.size ≤ a.block) ∧
    Wc w wr [] [⟨63, 4, .slice A3 j c3, j, itsV (kIts zs f j)⟩, ⟨47, 1, .slice A4 kk c4, kk, sl.map slv⟩]
      [fun W => Bls W sl (kBls zs f j), fun W => Ins W A n c zs])
  case atStart => exact ⟨0, none, 0, none, 0, 0, [], by omega, rfl, rfl, rfl, Nat.le_refl _, by simp, HD0.out.addF _ (fun W _ => Bls.nil W)⟩
  obtain ⟨j, A3, c3, A4, kk, c4, sl, hj, rfl, rfl, rfl, hkj, hfr, hw⟩ := hrel
  have HFR := Lib.hid hfr
  have HD3 := Lib.hid hw
  clear HD0 hw hfr
  by_cases hlt : j < m
  · have hjn : j < n := by omega
    have hjz : j < zs.length := by rw [HL.out]; exact hjn
    obtain ⟨a, oa, rfl, hc⟩ := (show Ins wr A n c zs from HD3.out.fi 1 rfl).at_ (by omega)
    have q0 := hc j (by rw [ivs_length]; exact hjz)
    rw [ivs_get] at q0
    have hzj : zs.getD j 0 = zs[j] := by simp [List.getD, List.getElem?_eq_getElem hjz]
    have hwz := HWZ.out zs[j] (List.getElem_mem _)
    obtain ⟨z, hz⟩ : ∃ z, zs[j] = z := ⟨_, rfl⟩
    rw [hz] at q0 hzj hwz
    have HZ := Lib.hid hzj
    clear hz hzj hc
    have hlt2 : (j : Int) < (n : Int) := by omega
    have hlt6 : (j : Int) < 6 := by omega
    have hge : 0 ≤ (j : Int) := by omega
    have htn : ((j : Int)).toNat = j := by omega
    go_wp2_with fail
    refine (mod_any z 6 _ hwz (by decide) (by decide)).mono ?_
    rintro en w3 ⟨rfl, rfl⟩
    clear q0 hwz
    have hff := HWF.out
    obtain ⟨fm, hfm⟩ : ∃ q, f % 1000 = q := ⟨_, rfl⟩
    have hfb : 0 ≤ fm ∧ fm < 1000 := by omega
    have HFM := Lib.hid hfm
    obtain ⟨bl, hbl0⟩ : ∃ q : Nat, fm + (j : Int) = (q : Int) := ⟨(fm + j).toNat, by omega⟩
    have HBL0 := Lib.hid hbl0
    have hblb : (bl : Int) ≤ 1005 := by omega
    have hbl00 : 0 ≤ (bl : Int) := by omega
    clear hfm hbl0
    rcases six z with hk | hk | hk | hk | hk | hk
    · rw [hk]
      have hit : kIt z f j = ⟨1, (bl : Int) % 8, 0, 0⟩ := by unfold kIt; rw [HFM.out, HBL0.out, hk]; rfl
      have HIT := Lib.hid (kIts_succ HZ.out hit)
      have hbl : kBl z f j = [kBlk bl] := by unfold kBl; rw [HFM.out, HBL0.out, hk]; rfl
      have HBL := Lib.hid (kBls_succ HZ.out hbl)
      have hld : It.loaded ⟨1, (bl : Int) % 8, 0, 0⟩ = true := by
        unfold It.loaded It.may
        simp
        omega
      have HLD := Lib.hid hld
      clear hk hit hbl HZ hld
      go_wp2_with fail
      refine (mod_any f 1000 _ hff (by decide) (by decide)).mono ?_
      rintro en w3 ⟨rfl, rfl⟩
      rw [HFM.out]
      have hw9 : fm + (j : Int) = (bl : Int) := HBL0.out
      obtain ⟨hfb0, hfb1⟩ := hfb
      have HD4 := Lib.hid ((HD3.out.newB #[.int .i64 1, .int .i64 ((bl : Int) % 8), .int .i64 0, .int .i64 0] 63 rfl).alloc (.cells #[.int .i64 1, .int .i64 ((bl : Int) % 8), .int .i64 0, .int .i64 0] 63))
      have hnw := news_new (wr.alloc (.cells #[.int .i64 1, .int .i64 ((bl : Int) % 8), .int .i64 0, .int .i64 0] 63)) #[.int .i64 1, .int .i64 ((bl : Int) % 8), .int .i64 0, .int .i64 0] 63 (by simp [maxLen])
      have hsz1 : (wr.alloc (.cells #[.int .i64 1, .int .i64 ((bl : Int) % 8), .int .i64 0, .int .i64 0] 63)).heap.size = wr.heap.size + 1 := by simp
      rw [hsz1] at hnw
      have HNW := Lib.hid hnw
      have HON := Lib.hid (itsV_one [⟨1, (bl : Int) % 8, 0, 0⟩])
      have HBS := Lib.hid HD4.out.only.size
      clear hnw hsz1 HD3
      go_wp2_with (first
        | (at_builtin; refine wpList_append_own_at _ rfl (.tmp 55) (.tmp 57) 53 rfl w.heap.size 63 i0 _ 4 32 Tryz.underlying53 hi0 hz0 hz1 hz2 rfl (by decide) (.slice A3 j c3) j (itsV (kIts zs f j)) rfl (HD4.out.gi 0 rfl) ⟨wr.heap.size + 1, 0, none⟩ 1 1 (itsV [⟨1, (bl : Int) % 8, 0, 0⟩]) rfl rfl HNW.out HON.out (by unfold maxLen; omega) (by omega) HBS.out ?_; intro v5 w5 hown hgrow _ hat; rw [HIT.out] at hown; have hdd := HD4.out.gapp 0 rfl hown hgrow hat; obtain ⟨A6, c6, rfl⟩ := hdd.gform 0 rfl; simp only [List.set_cons_zero, List.set_cons_succ] at hdd; have HD5 := Lib.hid hdd; clear hdd hown hgrow hat HNW HON HBS HD4; have yb := HD5.out.boxi 0 rfl; have y0 := yb.cell 0 (by simp); have y1 := yb.cell 1 (by simp); have y2 := yb.cell 2 (by simp); have y3 := yb.cell 3 (by simp); simp only [List.getElem_cons_zero, List.getElem_cons_succ] at y0 y1 y2 y3; have yl := yb.lt)
        | fail)
      generalize wr.heap.size = fb at *
      refine (ref_item_loaded_any 1 ((bl : Int) % 8) 0 0 _).mono ?_
      rintro en w6 ⟨rfl, hO6⟩
      rw [HLD.out]
      have HD6 := Lib.hid ((HD5.out.keep0 hO6).ldrop)
      clear yb y0 y1 y2 y3 yl HD5 hO6
      go_wp2_with fail
      refine (kit_bytes_any bl _ (by omega)).mono ?_
      rintro en w7 ⟨g7, rfl, hg7, ho7, hO7⟩
      have HD7 := Lib.hid ((HD6.out.addFc hO7 (f := fun V => Bys V (some ⟨g7, 0, none⟩) 64 64 (kBlk bl)) (Row1.fc (Row1.of_Own ho7 (by simp) (Nat.le_refl _) (by simp [maxLen])) (fun _ a ha => by injection ha with ha; subst ha; simp; omega))).alloc (.cells #[.slice (some ⟨g7, 0, none⟩) 64 64] 47))
      have hnr : Row1 (w7.alloc (.cells #[.slice (some ⟨g7, 0, none⟩) 64 64] 47)) (some ⟨w7.heap.size, 0, none⟩) 1 1 ([(some ⟨g7, 0, none⟩, 64, 64)].map slv) := Row1.of_Own (Own.new w7 #[.slice (some ⟨g7, 0, none⟩) 64 64] 47) rfl (Nat.le_refl _) (by simp [maxLen])
      have HNR := Lib.hid hnr
      have HBS := Lib.hid HD7.out.only.size
      have HGW : Hid (w.heap.size ≤ g7) := Lib.hid (by have := HD6.out.only.size; omega)
      clear hnr ho7 hO7 hg7 HD6
      go_wp2_with (first
        | (at_builtin; refine wpList_append_row1 rfl (.tmp 61) (.tmp 64) 54 rfl w.heap.size 47 i1 _ 24 Tryz.underlying54 hi1 hy0 hy1 hy2 rfl (.slice A4 kk c4) kk (sl.map slv) rfl (HD7.out.gi 1 rfl) (some ⟨w7.heap.size, 0, none⟩) 1 1 ([(some ⟨g7, 0, none⟩, 64, 64)].map slv) rfl HNR.out (slv_one _) (by unfold maxLen; omega) (by omega) HBS.out ?_; intro v8 w8 hown hgrow hat; rw [← List.map_append] at hown; have hdd := HD7.out.gapp 1 rfl hown hgrow hat; obtain ⟨A8, c8, rfl⟩ := hdd.gform 1 rfl; simp only [List.set_cons_zero, List.set_cons_succ] at hdd; have HD8 := Lib.hid hdd; clear hdd hown hgrow hat HNR HBS HD7)
        | fail)
      go_roundg (gk - 1)
      case measure => omega
      case rel =>
        refine ⟨j + 1, A6, c6, A8, kk + 1, c8, sl ++ [(some ⟨g7, 0, none⟩, 64, 64)], by omega, by go_num, rfl, rfl, by omega, fun s hs a ha => ?_, ?_⟩
        · rcases List.mem_append.1 hs with hs | hs
          · exact HFR.out s hs a ha
          · simp at hs
            subst hs
            injection ha with ha
            subst ha
            exact HGW.out
        refine (HD8.out.fuse (f1 := fun V => Bys V (some ⟨g7, 0, none⟩) 64 64 (kBlk bl)) (f2 := fun V => Bls V sl (kBls zs f j)) (f := fun V => Bls V (sl ++ [(some ⟨g7, 0, none⟩, 64, 64)]) (kBls zs f (j + 1))) (by simp) (by simp) (fun V h1 h2 => by rw [HBL.out]; exact h2.snoc h1)).subF ?_
        intro f1 hf1
        simp only [List.mem_cons, List.not_mem_nil, or_false] at hf1 ⊢
        rcases hf1 with rfl | rfl <;> simp
    · rw [hk]
      have hit : kIt z f j = ⟨2, (bl : Int) % 8, 1 + (bl : Int) % 3, 0⟩ := by unfold kIt; rw [HFM.out, HBL0.out, hk]; rfl
      have HIT := Lib.hid (kIts_succ HZ.out hit)
      have hbl : kBl z f j = [] := by unfold kBl; rw [hk]; rfl
      have HBL := Lib.hid (kBls_same HZ.out hbl)
      have hld : It.loaded ⟨2, (bl : Int) % 8, 1 + (bl : Int) % 3, 0⟩ = false := by
        unfold It.loaded It.may
        simp
        done
      have HLD := Lib.hid hld
      clear hk hit hbl HZ hld
      go_wp2_with fail
      refine (mod_any f 1000 _ hff (by decide) (by decide)).mono ?_
      rintro en w3 ⟨rfl, rfl⟩
      rw [HFM.out]
      have hw9 : fm + (j : Int) = (bl : Int) := HBL0.out
      obtain ⟨hfb0, hfb1⟩ := hfb
      have HD4 := Lib.hid ((HD3.out.newB #[.int .i64 2, .int .i64 ((bl : Int) % 8), .int .i64 (1 + (bl : Int) % 3), .int .i64 0] 63 rfl).alloc (.cells #[.int .i64 2, .int .i64 ((bl : Int) % 8), .int .i64 (1 + (bl : Int) % 3), .int .i64 0] 63))
      have hnw := news_new (wr.alloc (.cells #[.int .i64 2, .int .i64 ((bl : Int) % 8), .int .i64 (1 + (bl : Int) % 3), .int .i64 0] 63)) #[.int .i64 2, .int .i64 ((bl : Int) % 8), .int .i64 (1 + (bl : Int) % 3), .int .i64 0] 63 (by simp [maxLen])
      have hsz1 : (wr.alloc (.cells #[.int .i64 2, .int .i64 ((bl : Int) % 8), .int .i64 (1 + (bl : Int) % 3), .int .i64 0] 63)).heap.size = wr.heap.size + 1 := by simp
      rw [hsz1] at hnw
      have HNW := Lib.hid hnw
      have HON := Lib.hid (itsV_one [⟨2, (bl : Int) % 8, 1 + (bl : Int) % 3, 0⟩])
      have HBS := Lib.hid HD4.out.only.size
      clear hnw hsz1 HD3
      go_wp2_with (first
        | (at_builtin; refine wpList_append_own_at _ rfl (.tmp 55) (.tmp 57) 53 rfl w.heap.size 63 i0 _ 4 32 Tryz.underlying53 hi0 hz0 hz1 hz2 rfl (by decide) (.slice A3 j c3) j (itsV (kIts zs f j)) rfl (HD4.out.gi 0 rfl) ⟨wr.heap.size + 1, 0, none⟩ 1 1 (itsV [⟨2, (bl : Int) % 8, 1 + (bl : Int) % 3, 0⟩]) rfl rfl HNW.out HON.out (by unfold maxLen; omega) (by omega) HBS.out ?_; intro v5 w5 hown hgrow _ hat; rw [HIT.out] at hown; have hdd := HD4.out.gapp 0 rfl hown hgrow hat; obtain ⟨A6, c6, rfl⟩ := hdd.gform 0 rfl; simp only [List.set_cons_zero, List.set_cons_succ] at hdd; have HD5 := Lib.hid hdd; clear hdd hown hgrow hat HNW HON HBS HD4; have yb := HD5.out.boxi 0 rfl; have y0 := yb.cell 0 (by simp); have y1 := yb.cell 1 (by simp); have y2 := yb.cell 2 (by simp); have y3 := yb.cell 3 (by simp); simp only [List.getElem_cons_zero, List.getElem_cons_succ] at y0 y1 y2 y3; have yl := yb.lt)
        | fail)
      generalize wr.heap.size = fb at *
      refine (ref_item_loaded_any 2 ((bl : Int) % 8) (1 + (bl : Int) % 3) 0 _).mono ?_
      rintro en w6 ⟨rfl, hO6⟩
      rw [HLD.out]
      have HD6 := Lib.hid ((HD5.out.keep0 hO6).ldrop)
      clear yb y0 y1 y2 y3 yl HD5 hO6
      go_wp2_with fail
      go_roundg (gk - 1)
      case measure => omega
      case rel =>
        refine ⟨j + 1, A6, c6, A4, kk, c4, sl, by omega, by go_num, rfl, rfl, by omega, HFR.out, ?_⟩
        rw [HBL.out]
        exact HD6.out
    · rw [hk]
      have hit : kIt z f j = ⟨3, 0, 0, 1 + (bl : Int)⟩ := by unfold kIt; rw [HFM.out, HBL0.out, hk]; rfl
      have HIT := Lib.hid (kIts_succ HZ.out hit)
      have hbl : kBl z f j = [] := by unfold kBl; rw [hk]; rfl
      have HBL := Lib.hid (kBls_same HZ.out hbl)
      have hld : It.loaded ⟨3, 0, 0, 1 + (bl : Int)⟩ = false := by
        unfold It.loaded It.may
        simp
        done
      have HLD := Lib.hid hld
      clear hk hit hbl HZ hld
      go_wp2_with fail
      refine (mod_any f 1000 _ hff (by decide) (by decide)).mono ?_
      rintro en w3 ⟨rfl, rfl⟩
      rw [HFM.out]
      have hw9 : fm + (j : Int) = (bl : Int) := HBL0.out
      obtain ⟨hfb0, hfb1⟩ := hfb
      have HD4 := Lib.hid ((HD3.out.newB #[.int .i64 3, .int .i64 0, .int .i64 0, .int .i64 (1 + (bl : Int))] 63 rfl).alloc (.cells #[.int .i64 3, .int .i64 0, .int .i64 0, .int .i64 (1 + (bl : Int))] 63))
      have hnw := news_new (wr.alloc (.cells #[.int .i64 3, .int .i64 0, .int .i64 0, .int .i64 (1 + (bl : Int))] 63)) #[.int .i64 3, .int .i64 0, .int .i64 0, .int .i64 (1 + (bl : Int))] 63 (by simp [maxLen])
      have hsz1 : (wr.alloc (.cells #[.int .i64 3, .int .i64 0, .int .i64 0, .int .i64 (1 + (bl : Int))] 63)).heap.size = wr.heap.size + 1 := by simp
      rw [hsz1] at hnw
      have HNW := Lib.hid hnw
      have HON := Lib.hid (itsV_one [⟨3, 0, 0, 1 + (bl : Int)⟩])
      have HBS := Lib.hid HD4.out.only.size
      clear hnw hsz1 HD3
      go_wp2_with (first
        | (at_builtin; refine wpList_append_own_at _ rfl (.tmp 55) (.tmp 57) 53 rfl w.heap.size 63 i0 _ 4 32 Tryz.underlying53 hi0 hz0 hz1 hz2 rfl (by decide) (.slice A3 j c3) j (itsV (kIts zs f j)) rfl (HD4.out.gi 0 rfl) ⟨wr.heap.size + 1, 0, none⟩ 1 1 (itsV [⟨3, 0, 0, 1 + (bl : Int)⟩]) rfl rfl HNW.out HON.out (by unfold maxLen; omega) (by omega) HBS.out ?_; intro v5 w5 hown hgrow _ hat; rw [HIT.out] at hown; have hdd := HD4.out.gapp 0 rfl hown hgrow hat; obtain ⟨A6, c6, rfl⟩ := hdd.gform 0 rfl; simp only [List.set_cons_zero, List.set_cons_succ] at hdd; have HD5 := Lib.hid hdd; clear hdd hown hgrow hat HNW HON HBS HD4; have yb := HD5.out.boxi 0 rfl; have y0 := yb.cell 0 (by simp); have y1 := yb.cell 1 (by simp); have y2 := yb.cell 2 (by simp); have y3 := yb.cell 3 (by simp); simp only [List.getElem_cons_zero, List.getElem_cons_succ] at y0 y1 y2 y3; have yl := yb.lt)
        | fail)
      generalize wr.heap.size = fb at *
      refine (ref_item_loaded_any 3 0 0 (1 + (bl : Int)) _).mono ?_
      rintro en w6 ⟨rfl, hO6⟩
      rw [HLD.out]
      have HD6 := Lib.hid ((HD5.out.keep0 hO6).ldrop)
      clear yb y0 y1 y2 y3 yl HD5 hO6
      go_wp2_with fail
      go_roundg (gk - 1)
      case measure => omega
      case rel =>
        refine ⟨j + 1, A6, c6, A4, kk, c4, sl, by omega, by go_num, rfl, rfl, by omega, HFR.out, ?_⟩
        rw [HBL.out]
        exact HD6.out
    · rw [hk]
      have hit : kIt z f j = ⟨4, (bl : Int) % 8, 0, 20 + (bl : Int)⟩ := by unfold kIt; rw [HFM.out, HBL0.out, hk]; rfl
      have HIT := Lib.hid (kIts_succ HZ.out hit)
      have hbl : kBl z f j = [kBlk bl] := by unfold kBl; rw [HFM.out, HBL0.out, hk]; rfl
      have HBL := Lib.hid (kBls_succ HZ.out hbl)
      have hld : It.loaded ⟨4, (bl : Int) % 8, 0, 20 + (bl : Int)⟩ = true := by
        unfold It.loaded It.may
        simp
        omega
      have HLD := Lib.hid hld
      clear hk hit hbl HZ hld
      go_wp2_with fail
      refine (mod_any f 1000 _ hff (by decide) (by decide)).mono ?_
      rintro en w3 ⟨rfl, rfl⟩
      rw [HFM.out]
      have hw9 : fm + (j : Int) = (bl : Int) := HBL0.out
      obtain ⟨hfb0, hfb1⟩ := hfb
      have HD4 := Lib.hid ((HD3.out.newB #[.int .i64 4, .int .i64 ((bl : Int) % 8), .int .i64 0, .int .i64 (20 + (bl : Int))] 63 rfl).alloc (.cells #[.int .i64 4, .int .i64 ((bl : Int) % 8), .int .i64 0, .int .i64 (20 + (bl : Int))] 63))
      have hnw := news_new (wr.alloc (.cells #[.int .i64 4, .int .i64 ((bl : Int) % 8), .int .i64 0, .int .i64 (20 + (bl : Int))] 63)) #[.int .i64 4, .int .i64 ((bl : Int) % 8), .int .i64 0, .int .i64 (20 + (bl : Int))] 63 (by simp [maxLen])
      have hsz1 : (wr.alloc (.cells #[.int .i64 4, .int .i64 ((bl : Int) % 8), .int .i64 0, .int .i64 (20 + (bl : Int))] 63)).heap.size = wr.heap.size + 1 := by simp
      rw [hsz1] at hnw
      have HNW := Lib.hid hnw
      have HON := Lib.hid (itsV_one [⟨4, (bl : Int) % 8, 0, 20 + (bl : Int)⟩])
      have HBS := Lib.hid HD4.out.only.size
      clear hnw hsz1 HD3
      go_wp2_with (first
        | (at_builtin; refine wpList_append_own_at _ rfl (.tmp 55) (.tmp 57) 53 rfl w.heap.size 63 i0 _ 4 32 Tryz.underlying53 hi0 hz0 hz1 hz2 rfl (by decide) (.slice A3 j c3) j (itsV (kIts zs f j)) rfl (HD4.out.gi 0 rfl) ⟨wr.heap.size + 1, 0, none⟩ 1 1 (itsV [⟨4, (bl : Int) % 8, 0, 20 + (bl : Int)⟩]) rfl rfl HNW.out HON.out (by unfold maxLen; omega) (by omega) HBS.out ?_; intro v5 w5 hown hgrow _ hat; rw [HIT.out] at hown; have hdd := HD4.out.gapp 0 rfl hown hgrow hat; obtain ⟨A6, c6, rfl⟩ := hdd.gform 0 rfl; simp only [List.set_cons_zero, List.set_cons_succ] at hdd; have HD5 := Lib.hid hdd; clear hdd hown hgrow hat HNW HON HBS HD4; have yb := HD5.out.boxi 0 rfl; have y0 := yb.cell 0 (by simp); have y1 := yb.cell 1 (by simp); have y2 := yb.cell 2 (by simp); have y3 := yb.cell 3 (by simp); simp only [List.getElem_cons_zero, List.getElem_cons_succ] at y0 y1 y2 y3; have yl := yb.lt)
        | fail)
      generalize wr.heap.size = fb at *
      refine (ref_item_loaded_any 4 ((bl : Int) % 8) 0 (20 + (bl : Int)) _).mono ?_
      rintro en w6 ⟨rfl, hO6⟩
      rw [HLD.out]
      have HD6 := Lib.hid ((HD5.out.keep0 hO6).ldrop)
      clear yb y0 y1 y2 y3 yl HD5 hO6
      go_wp2_with fail
      refine (kit_bytes_any bl _ (by omega)).mono ?_
      rintro en w7 ⟨g7, rfl, hg7, ho7, hO7⟩
      have HD7 := Lib.hid ((HD6.out.addFc hO7 (f := fun V => Bys V (some ⟨g7, 0, none⟩) 64 64 (kBlk bl)) (Row1.fc (Row1.of_Own ho7 (by simp) (Nat.le_refl _) (by simp [maxLen])) (fun _ a ha => by injection ha with ha; subst ha; simp; omega))).alloc (.cells #[.slice (some ⟨g7, 0, none⟩) 64 64] 47))
      have hnr : Row1 (w7.alloc (.cells #[.slice (some ⟨g7, 0, none⟩) 64 64] 47)) (some ⟨w7.heap.size, 0, none⟩) 1 1 ([(some ⟨g7, 0, none⟩, 64, 64)].map slv) := Row1.of_Own (Own.new w7 #[.slice (some ⟨g7, 0, none⟩) 64 64] 47) rfl (Nat.le_refl _) (by simp [maxLen])
      have HNR := Lib.hid hnr
      have HBS := Lib.hid HD7.out.only.size
      have HGW : Hid (w.heap.size ≤ g7) := Lib.hid (by have := HD6.out.only.size; omega)
      clear hnr ho7 hO7 hg7 HD6
      go_wp2_with (first
        | (at_builtin; refine wpList_append_row1 rfl (.tmp 61) (.tmp 64) 54 rfl w.heap.size 47 i1 _ 24 Tryz.underlying54 hi1 hy0 hy1 hy2 rfl (.slice A4 kk c4) kk (sl.map slv) rfl (HD7.out.gi 1 rfl) (some ⟨w7.heap.size, 0, none⟩) 1 1 ([(some ⟨g7, 0, none⟩, 64, 64)].map slv) rfl HNR.out (slv_one _) (by unfold maxLen; omega) (by omega) HBS.out ?_; intro v8 w8 hown hgrow hat; rw [← List.map_append] at hown; have hdd := HD7.out.gapp 1 rfl hown hgrow hat; obtain ⟨A8, c8, rfl⟩ := hdd.gform 1 rfl; simp only [List.set_cons_zero, List.set_cons_succ] at hdd; have HD8 := Lib.hid hdd; clear hdd hown hgrow hat HNR HBS HD7)
        | fail)
      go_roundg (gk - 1)
      case measure => omega
      case rel =>
        refine ⟨j + 1, A6, c6, A8, kk + 1, c8, sl ++ [(some ⟨g7, 0, none⟩, 64, 64)], by omega, by go_num, rfl, rfl, by omega, fun s hs a ha => ?_, ?_⟩
        · rcases List.mem_append.1 hs with hs | hs
          · exact HFR.out s hs a ha
          · simp at hs
            subst hs
            injection ha with ha
            subst ha
            exact HGW.out
        refine (HD8.out.fuse (f1 := fun V => Bys V (some ⟨g7, 0, none⟩) 64 64 (kBlk bl)) (f2 := fun V => Bls V sl (kBls zs f j)) (f := fun V => Bls V (sl ++ [(some ⟨g7, 0, none⟩, 64, 64)]) (kBls zs f (j + 1))) (by simp) (by simp) (fun V h1 h2 => by rw [HBL.out]; exact h2.snoc h1)).subF ?_
        intro f1 hf1
        simp only [List.mem_cons, List.not_mem_nil, or_false] at hf1 ⊢
        rcases hf1 with rfl | rfl <;> simp
    · rw [hk]
      have hit : kIt z f j = ⟨5, (bl : Int) % 8, 0, 0⟩ := by unfold kIt; rw [HFM.out, HBL0.out, hk]; rfl
      have HIT := Lib.hid (kIts_succ HZ.out hit)
      have hbl : kBl z f j = [kBlk bl] := by unfold kBl; rw [HFM.out, HBL0.out, hk]; rfl
      have HBL := Lib.hid (kBls_succ HZ.out hbl)
      have hld : It.loaded ⟨5, (bl : Int) % 8, 0, 0⟩ = true := by
        unfold It.loaded It.may
        simp
        omega
      have HLD := Lib.hid hld
      clear hk hit hbl HZ hld
      go_wp2_with fail
      refine (mod_any f 1000 _ hff (by decide) (by decide)).mono ?_
      rintro en w3 ⟨rfl, rfl⟩
      rw [HFM.out]
      have hw9 : fm + (j : Int) = (bl : Int) := HBL0.out
      obtain ⟨hfb0, hfb1⟩ := hfb
      have HD4 := Lib.hid ((HD3.out.newB #[.int .i64 5, .int .i64 ((bl : Int) % 8), .int .i64 0, .int .i64 0] 63 rfl).alloc (.cells #[.int .i64 5, .int .i64 ((bl : Int) % 8), .int .i64 0, .int .i64 0] 63))
      have hnw := news_new (wr.alloc (.cells #[.int .i64 5, .int .i64 ((bl : Int) % 8), .int .i64 0, .int .i64 0] 63)) #[.int .i64 5, .int .i64 ((bl : Int) % 8), .int .i64 0, .int .i64 0] 63 (by simp [maxLen])
      have hsz1 : (wr.alloc (.cells #[.int .i64 5, .int .i64 ((bl : Int) % 8), .int .i64 0, .int .i64 0] 63)).heap.size = wr.heap.size + 1 := by simp
      rw [hsz1] at hnw
      have HNW := Lib.hid hnw
      have HON := Lib.hid (itsV_one [⟨5, (bl : Int) % 8, 0, 0⟩])
      have HBS := Lib.hid HD4.out.only.size
      clear hnw hsz1 HD3
      go_wp2_with (first
        | (at_builtin; refine wpList_append_own_at _ rfl (.tmp 55) (.tmp 57) 53 rfl w.heap.size 63 i0 _ 4 32 Tryz.underlying53 hi0 hz0 hz1 hz2 rfl (by decide) (.slice A3 j c3) j (itsV (kIts zs f j)) rfl (HD4.out.gi 0 rfl) ⟨wr.heap.size + 1, 0, none⟩ 1 1 (itsV [⟨5, (bl : Int) % 8, 0, 0⟩]) rfl rfl HNW.out HON.out (by unfold maxLen; omega) (by omega) HBS.out ?_; intro v5 w5 hown hgrow _ hat; rw [HIT.out] at hown; have hdd := HD4.out.gapp 0 rfl hown hgrow hat; obtain ⟨A6, c6, rfl⟩ := hdd.gform 0 rfl; simp only [List.set_cons_zero, List.set_cons_succ] at hdd; have HD5 := Lib.hid hdd; clear hdd hown hgrow hat HNW HON HBS HD4; have yb := HD5.out.boxi 0 rfl; have y0 := yb.cell 0 (by simp); have y1 := yb.cell 1 (by simp); have y2 := yb.cell 2 (by simp); have y3 := yb.cell 3 (by simp); simp only [List.getElem_cons_zero, List.getElem_cons_succ] at y0 y1 y2 y3; have yl := yb.lt)
        | fail)
      generalize wr.heap.size = fb at *
      refine (ref_item_loaded_any 5 ((bl : Int) % 8) 0 0 _).mono ?_
      rintro en w6 ⟨rfl, hO6⟩
      rw [HLD.out]
      have HD6 := Lib.hid ((HD5.out.keep0 hO6).ldrop)
      clear yb y0 y1 y2 y3 yl HD5 hO6
      go_wp2_with fail
      refine (kit_bytes_any bl _ (by omega)).mono ?_
      rintro en w7 ⟨g7, rfl, hg7, ho7, hO7⟩
      have HD7 := Lib.hid ((HD6.out.addFc hO7 (f := fun V => Bys V (some ⟨g7, 0, none⟩) 64 64 (kBlk bl)) (Row1.fc (Row1.of_Own ho7 (by simp) (Nat.le_refl _) (by simp [maxLen])) (fun _ a ha => by injection ha with ha; subst ha; simp; omega))).alloc (.cells #[.slice (some ⟨g7, 0, none⟩) 64 64] 47))
      have hnr : Row1 (w7.alloc (.cells #[.slice (some ⟨g7, 0, none⟩) 64 64] 47)) (some ⟨w7.heap.size, 0, none⟩) 1 1 ([(some ⟨g7, 0, none⟩, 64, 64)].map slv) := Row1.of_Own (Own.new w7 #[.slice (some ⟨g7, 0, none⟩) 64 64] 47) rfl (Nat.le_refl _) (by simp [maxLen])
      have HNR := Lib.hid hnr
      have HBS := Lib.hid HD7.out.only.size
      have HGW : Hid (w.heap.size ≤ g7) := Lib.hid (by have := HD6.out.only.size; omega)
      clear hnr ho7 hO7 hg7 HD6
      go_wp2_with (first
        | (at_builtin; refine wpList_append_row1 rfl (.tmp 61) (.tmp 64) 54 rfl w.heap.size 47 i1 _ 24 Tryz.underlying54 hi1 hy0 hy1 hy2 rfl (.slice A4 kk c4) kk (sl.map slv) rfl (HD7.out.gi 1 rfl) (some ⟨w7.heap.size, 0, none⟩) 1 1 ([(some ⟨g7, 0, none⟩, 64, 64)].map slv) rfl HNR.out (slv_one _) (by unfold maxLen; omega) (by omega) HBS.out ?_; intro v8 w8 hown hgrow hat; rw [← List.map_append] at hown; have hdd := HD7.out.gapp 1 rfl hown hgrow hat; obtain ⟨A8, c8, rfl⟩ := hdd.gform 1 rfl; simp only [List.set_cons_zero, List.set_cons_succ] at hdd; have HD8 := Lib.hid hdd; clear hdd hown hgrow hat HNR HBS HD7)
        | fail)
      go_roundg (gk - 1)
      case measure => omega
      case rel =>
        refine ⟨j + 1, A6, c6, A8, kk + 1, c8, sl ++ [(some ⟨g7, 0, none⟩, 64, 64)], by omega, by go_num, rfl, rfl, by omega, fun s hs a ha => ?_, ?_⟩
        · rcases List.mem_append.1 hs with hs | hs
          · exact HFR.out s hs a ha
          · simp at hs
            subst hs
            injection ha with ha
            subst ha
            exact HGW.out
        refine (HD8.out.fuse (f1 := fun V => Bys V (some ⟨g7, 0, none⟩) 64 64 (kBlk bl)) (f2 := fun V => Bls V sl (kBls zs f j)) (f := fun V => Bls V (sl ++ [(some ⟨g7, 0, none⟩, 64, 64)]) (kBls zs f (j + 1))) (by simp) (by simp) (fun V h1 h2 => by rw [HBL.out]; exact h2.snoc h1)).subF ?_
        intro f1 hf1
        simp only [List.mem_cons, List.not_mem_nil, or_false] at hf1 ⊢
        rcases hf1 with rfl | rfl <;> simp
    · rw [hk]
      have hit : kIt z f j = ⟨6, (bl : Int) % 8, 1 + (bl : Int) % 3, 0⟩ := by unfold kIt; rw [HFM.out, HBL0.out, hk]; rfl
      have HIT := Lib.hid (kIts_succ HZ.out hit)
      have hbl : kBl z f j = [] := by unfold kBl; rw [hk]; rfl
      have HBL := Lib.hid (kBls_same HZ.out hbl)
      have hld : It.loaded ⟨6, (bl : Int) % 8, 1 + (bl : Int) % 3, 0⟩ = false := by
        unfold It.loaded It.may
        simp
        done
      have HLD := Lib.hid hld
      clear hk hit hbl HZ hld
      go_wp2_with fail
      refine (mod_any f 1000 _ hff (by decide) (by decide)).mono ?_
      rintro en w3 ⟨rfl, rfl⟩
      rw [HFM.out]
      have hw9 : fm + (j : Int) = (bl : Int) := HBL0.out
      obtain ⟨hfb0, hfb1⟩ := hfb
      have HD4 := Lib.hid ((HD3.out.newB #[.int .i64 6, .int .i64 ((bl : Int) % 8), .int .i64 (1 + (bl : Int) % 3), .int .i64 0] 63 rfl).alloc (.cells #[.int .i64 6, .int .i64 ((bl : Int) % 8), .int .i64 (1 + (bl : Int) % 3), .int .i64 0] 63))
      have hnw := news_new (wr.alloc (.cells #[.int .i64 6, .int .i64 ((bl : Int) % 8), .int .i64 (1 + (bl : Int) % 3), .int .i64 0] 63)) #[.int .i64 6, .int .i64 ((bl : Int) % 8), .int .i64 (1 + (bl : Int) % 3), .int .i64 0] 63 (by simp [maxLen])
      have hsz1 : (wr.alloc (.cells #[.int .i64 6, .int .i64 ((bl : Int) % 8), .int .i64 (1 + (bl : Int) % 3), .int .i64 0] 63)).heap.size = wr.heap.size + 1 := by simp
      rw [hsz1] at hnw
      have HNW := Lib.hid hnw
      have HON := Lib.hid (itsV_one [⟨6, (bl : Int) % 8, 1 + (bl : Int) % 3, 0⟩])
      have HBS := Lib.hid HD4.out.only.size
      clear hnw hsz1 HD3
      go_wp2_with (first
        | (at_builtin; refine wpList_append_own_at _ rfl (.tmp 55) (.tmp 57) 53 rfl w.heap.size 63 i0 _ 4 32 Tryz.underlying53 hi0 hz0 hz1 hz2 rfl (by decide) (.slice A3 j c3) j (itsV (kIts zs f j)) rfl (HD4.out.gi 0 rfl) ⟨wr.heap.size + 1, 0, none⟩ 1 1 (itsV [⟨6, (bl : Int) % 8, 1 + (bl : Int) % 3, 0⟩]) rfl rfl HNW.out HON.out (by unfold maxLen; omega) (by omega) HBS.out ?_; intro v5 w5 hown hgrow _ hat; rw [HIT.out] at hown; have hdd := HD4.out.gapp 0 rfl hown hgrow hat; obtain ⟨A6, c6, rfl⟩ := hdd.gform 0 rfl; simp only [List.set_cons_zero, List.set_cons_succ] at hdd; have HD5 := Lib.hid hdd; clear hdd hown hgrow hat HNW HON HBS HD4; have yb := HD5.out.boxi 0 rfl; have y0 := yb.cell 0 (by simp); have y1 := yb.cell 1 (by simp); have y2 := yb.cell 2 (by simp); have y3 := yb.cell 3 (by simp); simp only [List.getElem_cons_zero, List.getElem_cons_succ] at y0 y1 y2 y3; have yl := yb.lt)
        | fail)
      generalize wr.heap.size = fb at *
      refine (ref_item_loaded_any 6 ((bl : Int) % 8) (1 + (bl : Int) % 3) 0 _).mono ?_
      rintro en w6 ⟨rfl, hO6⟩
      rw [HLD.out]
      have HD6 := Lib.hid ((HD5.out.keep0 hO6).ldrop)
      clear yb y0 y1 y2 y3 yl HD5 hO6
      go_wp2_with fail
      go_roundg (gk - 1)
      case measure => omega
      case rel =>
        refine ⟨j + 1, A6, c6, A4, kk, c4, sl, by omega, by go_num, rfl, rfl, by omega, HFR.out, ?_⟩
        rw [HBL.out]
        exact HD6.out
  · obtain rfl : j = m := by omega
    have hcond : ¬ ((j : Int) < (n : Int) ∧ (j : Int) < 6) := by have := HMM.out; omega
    by_cases hn0 : n = 0
    · subst hn0
      obtain rfl : j = 0 := by omega
      obtain rfl : kk = 0 := by omega
      have e1 : kItems zs f = [⟨3, 0, 0, 1⟩] := by unfold kItems; rw [if_pos HL.out]
      have e2 : kBlocks zs f = kBls zs f 0 := by unfold kBlocks; rw [HL.out]; rfl
      have E1 := Lib.hid e1
      have E2 := Lib.hid e2
      have HD4 := Lib.hid (HD3.out.alloc (.cells #[.int .i64 3, .int .i64 0, .int .i64 0, .int .i64 1] 63))
      have hnw := news_new wr #[.int .i64 3, .int .i64 0, .int .i64 0, .int .i64 1] 63 (by simp [maxLen])
      have HNW := Lib.hid hnw
      have HON := Lib.hid (itsV_one [⟨3, 0, 0, 1⟩])
      have HBS := Lib.hid HD4.out.only.size
      clear hnw HD3 e1 e2 hcond
      go_wp2_with (first
        | (at_builtin; refine wpList_append_own_at _ rfl (.tmp 69) (.tmp 71) 53 rfl w.heap.size 63 i0 _ 4 32 Tryz.underlying53 hi0 hz0 hz1 hz2 rfl (by decide) (.slice A3 0 c3) 0 (itsV (kIts zs f 0)) rfl (HD4.out.gi 0 rfl) ⟨wr.heap.size, 0, none⟩ 1 1 (itsV [⟨3, 0, 0, 1⟩]) rfl rfl HNW.out HON.out (by unfold maxLen; omega) (by omega) HBS.out ?_; intro v5 w5 hown hgrow _ hat; have hdd := HD4.out.gapp 0 rfl hown hgrow hat; obtain ⟨A6, c6, rfl⟩ := hdd.gform 0 rfl; simp only [List.set_cons_zero, List.set_cons_succ] at hdd; have HD5 := Lib.hid hdd; clear hdd hown hgrow hat HNW HON HBS HD4)
        | fail)
      go_ret2
      rw [E1.out, E2.out]
      exact ⟨(A6, 1, c6), (A4, 0, c4), rfl, wc_itbl (l := [⟨3, 0, 0, 1⟩]) HD5.out rfl HFR.out, HD5.out.only⟩
    · have e1 : kItems zs f = kIts zs f j := by unfold kItems; rw [if_neg (by rw [HL.out]; exact hn0), HL.out, HMM.out]
      have e2 : kBlocks zs f = kBls zs f j := by unfold kBlocks; rw [HL.out, HMM.out]
      have E1 := Lib.hid e1
      have E2 := Lib.hid e2
      have hj0 : 0 < j := by have := HMM.out; omega
      have hj1 : ((j : Int) == 0) = false := by simp; omega
      clear e1 e2
      by_cases hjn : (j : Int) < (n : Int)
      · have hj6 : ¬ (j : Int) < 6 := by omega
        clear hcond
        go_wp2
        go_ret2
        rw [E1.out, E2.out]
        exact ⟨(A3, j, c3), (A4, kk, c4), rfl, wc_itbl HD3.out (kIts_length zs f j) HFR.out, HD3.out.only⟩
      · clear hcond
        go_wp2
        go_ret2
        rw [E1.out, E2.out]
        exact ⟨(A3, j, c3), (A4, kk, c4), rfl, wc_itbl HD3.out (kIts_length zs f j) HFR.out, HD3.out.only⟩
end Go.Proofs.YtgcfdjcpcclcjaaGreat
namespace Go.Kn
open Go Go.RowKit
/-- a record as it is laid on a disk -/
structure KR where
  kinds : List Int
  fill : Int
  skew : Int
  twist : Int
  up : Int
def kMount (p : Ps) (r : KR) : Int := max (p.m + (r.up + 3) % 7 - 3) 1
def kLsn (p : Ps) (r : KR) : Int := max (p.l + (r.skew + 2) % 5 - 2) 1
def kPrev (p : Ps) (r : KR) : Int := (p.p + r.twist % 3) % 4294967296
def kMade (p : Ps) (r : KR) : Rc := ⟨kMount p r, kLsn p r, kPrev p r, kItems r.kinds r.fill, kBlocks r.kinds r.fill⟩
structure KR.Wf (r : KR) : Prop where
  kinds : ∀ z ∈ r.kinds, (Lit.int .i64 z).wf = true
  fill : (Lit.int .i64 r.fill).wf = true
  twist : (Lit.int .i64 r.twist).wf = true
  skew : -1000 ≤ r.skew ∧ r.skew ≤ 1000
  up : -1000 ≤ r.up ∧ r.up ≤ 1000
structure Ps.Wf (p : Ps) : Prop where
  m : -1000000000000 ≤ p.m ∧ p.m ≤ 1000000000000
  l : -1000000000000 ≤ p.l ∧ p.l ≤ 1000000000000
  p : -1000000000000 ≤ p.p ∧ p.p ≤ 1000000000000
/-- what makes a record -/
def RcMade (w : World) (r : Rc) (e : Ending) (w' : World) : Prop :=
  ∃ s t : Option Addr × Nat × Nat, e = .returned (.agg (r.cells s t)) ∧ Fc w' (fun k => k < w.heap.size) (fun W => RcAt W r s t) ∧ Only [] w w'
theorem wf_small {z : Int} (h1 : -4611686018427387904 ≤ z) (h2 : z ≤ 4611686018427387904) : (Lit.int .i64 z).wf = true := by
  simp [Lit.wf, IntKind.min, IntKind.max, IntKind.signed, IntKind.bits]
  omega
end Go.Kn
namespace Go.Proofs.YtgcfdjcpcclcjaaGreat
open Go Go.RowKit Go.Kn
theorem exec_max {P : Program} {o : Oper} {a : Act} {w : World} {x y : Operand} {t1 t2 : TypeId} (hop : o.op = .call { callee := .builtin .max, args := #[x, y], argTypes := #[t1, t2] }) {p q : Int} (hx : a.eval x = .int .i64 p) (hy : a.eval y = .int .i64 q) :
    (execOp a.eval o).run P w = .ok (.value (.int .i64 (max p q))) w := by
  have e : (if q > p then q else p) = max p q := by
    split
    · omega
    · omega
  unfold execOp
  simp [hop, resolve, invoke, builtin, hx, hy, Builtin.max_, Builtin.max2, e]
set_option maxRecDepth 100000 in
set_option maxHeartbeats 8000000 in
theorem kit_made_any (p : Ps) (r : KR) (A : Option Addr) (n cc : Nat) (w : World) (hi : Ins w A n cc r.kinds) (hp : p.Wf) (hr : r.Wf) :
    Calls Tryz.prog 79 #[.agg #[.int .i64 p.s, .int .i64 p.o, .int .i64 p.l, .int .i64 p.p, .int .i64 p.m], .agg #[.slice A n cc, .int .i64 r.fill, .int .i64 r.skew, .int .i64 r.twist, .int .i64 r.up]] w (RcMade w (kMade p r)) := by
  have hres : Tryz.f79.results = #[.cell 4 56] := by kernel_rfl
  have HRES := Lib.hid hres
  have HI := Lib.hid hi
  have HW1 := Lib.hid hr.kinds
  have HW2 := Lib.hid hr.fill
  have htw := hr.twist
  obtain ⟨hs0, hs1⟩ := hr.skew
  obtain ⟨hu0, hu1⟩ := hr.up
  obtain ⟨hm0, hm1⟩ := hp.m
  obtain ⟨hl0, hl1⟩ := hp.l
  obtain ⟨hq0, hq1⟩ := hp.p
  have HE : Hid (kMade p r = ⟨max (p.m + (r.up + 3) % 7 - 3) 1, max (p.l + (r.skew + 2) % 5 - 2) 1, (p.p + r.twist % 3) % 4294967296, kItems r.kinds r.fill, kBlocks r.kinds r.fill⟩) := Lib.hid rfl
  have HD0 := Lib.hid ((((Wc.start w).newB #[.int .i64 p.s, .int .i64 p.o, .int .i64 p.l, .int .i64 p.p, .int .i64 p.m] 32 rfl).newB #[.slice A n cc, .int .i64 r.fill, .int .i64 r.skew, .int .i64 r.twist, .int .i64 r.up] 38 rfl).newB #[.int .i64 0, .int .i64 0, .int .i64 0, .slice none 0 0, .slice none 0 0] 56 rfl)
  have HI0 := Lib.hid (((hi.alloc (.cells #[.int .i64 p.s, .int .i64 p.o, .int .i64 p.l, .int .i64 p.p, .int .i64 p.m] 32)).alloc (.cells #[.slice A n cc, .int .i64 r.fill, .int .i64 r.skew, .int .i64 r.twist, .int .i64 r.up] 38)).alloc (.cells #[.int .i64 0, .int .i64 0, .int .i64 0, .slice none 0 0, .slice none 0 0] 56))
  clear hi hres hr hp HI
  go_enter Tryz.func79, Tryz.ntmps79
  go_wp2_with fail
  generalize hz1 : ((w.alloc (.cells #[.int .i64 p.s, .int .i64 p.o, .int .i64 p.l, .int .i64 p.p, .int .i64 p.m] 32)).alloc (.cells #[.slice A n cc, .int .i64 r.fill, .int .i64 r.skew, .int .i64 r.twist, .int .i64 r.up] 38)).alloc (.cells #[.int .i64 0, .int .i64 0, .int .i64 0, .slice none 0 0, .slice none 0 0] 56) = w1 at *
  have hs1 : (w.alloc (.cells #[.int .i64 p.s, .int .i64 p.o, .int .i64 p.l, .int .i64 p.p, .int .i64 p.m] 32)).heap.size = w.heap.size + 1 := by simp
  have hs2 : ((w.alloc (.cells #[.int .i64 p.s, .int .i64 p.o, .int .i64 p.l, .int .i64 p.p, .int .i64 p.m] 32)).alloc (.cells #[.slice A n cc, .int .i64 r.fill, .int .i64 r.skew, .int .i64 r.twist, .int .i64 r.up] 38)).heap.size = w.heap.size + 1 + 1 := by simp
  rw [hs1, hs2] at HD0
  clear hz1 hs1 hs2
  generalize hfb : w.heap.size = fb at *
  generalize hfr : fb + 1 = fr at *
  generalize hfz : fr + 1 = fz at *
  have hwf : w.heap.size ≤ fb ∧ fb < fr ∧ fr < fz := by omega
  have HWF := Lib.hid hwf
  clear hfb hfr hfz hwf
  refine (kit_items_any A n cc r.kinds r.fill _ HI0.out HW1.out HW2.out).mono ?_
  rintro en w2 ⟨s, t, rfl, hfc, hO⟩
  have hsz1 := (HD0.out.boxi 0 rfl).lt
  have HSZ := Lib.hid hsz1
  have HFC := Lib.hid hfc
  have HD7 := Lib.hid (HD0.out.keep0 hO).drew
  have HOR := Lib.hid ((Only.refl [fz] w2).drew)
  have HX0 := Lib.hid hO.size
  clear hfc hO HD0 HI0 hsz1
  obtain ⟨s1, s2, s3⟩ := s
  obtain ⟨t1, t2, t3⟩ := t
  simp only [slv]
  have hx1 := IntWalk.i64_in (r.up + 3) (by omega)
  have hx2 := IntWalk.i64_in (p.m + (r.up + 3) % 7) (by omega)
  have hx3 := IntWalk.i64_in (p.m + (r.up + 3) % 7 - 3) (by omega)
  have hx4 := IntWalk.i64_in (r.skew + 2) (by omega)
  have hx5 := IntWalk.i64_in (p.l + (r.skew + 2) % 5) (by omega)
  have hx6 := IntWalk.i64_in (p.l + (r.skew + 2) % 5 - 2) (by omega)
  have hx7 := IntWalk.i64_in (p.p + r.twist % 3) (by omega)
  have HT1 := Lib.hid (wf_small (z := r.up + 3) (by omega) (by omega))
  have HT2 := Lib.hid (wf_small (z := r.skew + 2) (by omega) (by omega))
  have HT3 := Lib.hid htw
  have HT4 := Lib.hid (wf_small (z := p.p + r.twist % 3) (by omega) (by omega))
  obtain ⟨K1, hk1⟩ : ∃ z, (r.up + 3) % 7 = z := ⟨_, rfl⟩
  obtain ⟨K2, hk2⟩ : ∃ z, (r.skew + 2) % 5 = z := ⟨_, rfl⟩
  obtain ⟨K3, hk3⟩ : ∃ z, r.twist % 3 = z := ⟨_, rfl⟩
  rw [hk1] at hx2 hx3 HE
  rw [hk2] at hx5 hx6 HE
  rw [hk3] at hx7 HT4 HE
  have HK1 := Lib.hid hk1
  have HK2 := Lib.hid hk2
  have HK3 := Lib.hid hk3
  clear hk1 hk2 hk3 htw
  obtain ⟨K4, hk4⟩ : ∃ z, (p.p + K3) % 4294967296 = z := ⟨_, rfl⟩
  rw [hk4] at HE
  have HK4 := Lib.hid hk4
  clear hk4
  go_wp2_with fail
  refine wp_region_held_drew (S := fun w' => Kn.Own w' fb [.int .i64 p.s, .int .i64 p.o, .int .i64 p.l, .int .i64 p.p, .int .i64 p.m] ∧ Kn.Own w' fr [.slice A n cc, .int .i64 r.fill, .int .i64 r.skew, .int .i64 r.twist, .int .i64 r.up]) (by kernel_rfl) ⟨HD7.out.boxi 2 rfl, HD7.out.boxi 1 rfl⟩ (fun hSw0 => ?_)
  generalize w2.drew = ws at *
  refine wpAnyH_take (i := 0) (oi := ⟨some 16, _, _, _, _, _⟩) (v := ?_) rfl (by kernel_rfl) (by kernel_rfl) (by kernel_rfl) (fun _ _ _ h => h) (Or.inl ⟨by rfl, ?_⟩) (by assumption) ?_
  rotate_left
  · intro w hSw
    (try dsimp only at hSw)
    go_simp
    all_goals (try with_reducible rfl)
  (try simp only [Act.put, List.setIfInBounds_toArray, List.set_cons_zero, List.set_cons_succ])
  refine wpAnyH_take (i := 1) (oi := ⟨some 17, _, _, _, _, _⟩) (v := (.int .i64 p.m)) rfl (by kernel_rfl) (by kernel_rfl) (by kernel_rfl) (fun _ _ _ h => h) (Or.inl ⟨by rfl, ?_⟩) (by assumption) ?_
  · intro w hSw
    have q0 := hSw.1.cell 4 (by simp)
    simp only [List.getElem_cons_zero, List.getElem_cons_succ] at q0
    go_simp
  (try simp only [Act.put, List.setIfInBounds_toArray, List.set_cons_zero, List.set_cons_succ])
  refine wpAnyH_take (i := 2) (oi := ⟨some 18, _, _, _, _, _⟩) (v := ?_) rfl (by kernel_rfl) (by kernel_rfl) (by kernel_rfl) (fun _ _ _ h => h) (Or.inl ⟨by rfl, ?_⟩) (by assumption) ?_
  rotate_left
  · intro w hSw
    (try dsimp only at hSw)
    go_simp
    all_goals (try with_reducible rfl)
  (try simp only [Act.put, List.setIfInBounds_toArray, List.set_cons_zero, List.set_cons_succ])
  refine wpAnyH_take (i := 3) (oi := ⟨some 19, _, _, _, _, _⟩) (v := (.int .i64 r.up)) rfl (by kernel_rfl) (by kernel_rfl) (by kernel_rfl) (fun _ _ _ h => h) (Or.inl ⟨by rfl, ?_⟩) (by assumption) ?_
  · intro w hSw
    have q0 := hSw.2.cell 4 (by simp)
    simp only [List.getElem_cons_zero, List.getElem_cons_succ] at q0
    go_simp
  (try simp only [Act.put, List.setIfInBounds_toArray, List.set_cons_zero, List.set_cons_succ])
  refine wpAnyH_take (i := 4) (oi := ⟨some 20, _, _, _, _, _⟩) (v := ?_) rfl (by kernel_rfl) (by kernel_rfl) (by kernel_rfl) (fun _ _ _ h => h) (Or.inl ⟨by rfl, ?_⟩) (by assumption) ?_
  rotate_left
  · intro w hSw
    (try dsimp only at hSw)
    go_simp
    all_goals (try with_reducible rfl)
  (try simp only [Act.put, List.setIfInBounds_toArray, List.set_cons_zero, List.set_cons_succ])
  refine wpAnyH_ready (rs := [5]) (by kernel_rfl) (by simp) ?_
  refine AllReadyH.cons (o := ⟨some 21, _, _, _, _, _⟩) rfl (fun K hK => ?_) AllReadyH.nil
  go_simp
  refine (mod_any (r.up + 3) 7 _ HT1.out (by decide) (by decide)).mono ?_
  rintro en wx ⟨rfl, rfl⟩
  rw [HK1.out]
  refine hK.out _ _ hSw0 (fun hSn => ?_)
  clear hK K hSn
  (try simp only [Act.put, List.setIfInBounds_toArray, List.set_cons_zero, List.set_cons_succ])
  refine wpAnyH_take (i := 6) (oi := ⟨some 22, _, _, _, _, _⟩) (v := ?_) rfl (by kernel_rfl) (by kernel_rfl) (by kernel_rfl) (fun _ _ _ h => h) (Or.inl ⟨by rfl, ?_⟩) (by assumption) ?_
  rotate_left
  · intro w hSw
    (try dsimp only at hSw)
    go_simp
    all_goals (try with_reducible rfl)
  (try simp only [Act.put, List.setIfInBounds_toArray, List.set_cons_zero, List.set_cons_succ])
  refine wpAnyH_take (i := 7) (oi := ⟨some 23, _, _, _, _, _⟩) (v := ?_) rfl (by kernel_rfl) (by kernel_rfl) (by kernel_rfl) (fun _ _ _ h => h) (Or.inl ⟨by rfl, ?_⟩) (by assumption) ?_
  rotate_left
  · intro w hSw
    (try dsimp only at hSw)
    go_simp
    all_goals (try with_reducible rfl)
  (try simp only [Act.put, List.setIfInBounds_toArray, List.set_cons_zero, List.set_cons_succ])
  refine wpAnyH_take (i := 8) (oi := ⟨some 7, _, _, _, _, _⟩) (v := ?_) rfl (by kernel_rfl) (by kernel_rfl) (by kernel_rfl) (fun _ _ _ h => h) (Or.inl ⟨by rfl, ?_⟩) (by assumption) ?_
  rotate_left
  · intro w hSw
    (try dsimp only at hSw)
    go_simp
    all_goals (try with_reducible rfl)
  (try simp only [Act.put, List.setIfInBounds_toArray, List.set_cons_zero, List.set_cons_succ])
  refine wpAnyH_done (by kernel_rfl) ?_ _
  have HD8 := Lib.hid HD7.out.drew
  have HOR2 := Lib.hid HOR.out.drew
  clear HD7 HOR hSw0
  go_wp2_with fail
  refine wp_region_held_drew (S := fun w' => Kn.Own w' fb [.int .i64 p.s, .int .i64 p.o, .int .i64 p.l, .int .i64 p.p, .int .i64 p.m] ∧ Kn.Own w' fr [.slice A n cc, .int .i64 r.fill, .int .i64 r.skew, .int .i64 r.twist, .int .i64 r.up]) (by kernel_rfl) ⟨HD8.out.boxi 2 rfl, HD8.out.boxi 1 rfl⟩ (fun hSw0 => ?_)
  generalize ws.drew = wt at *
  refine wpAnyH_take (i := 0) (oi := ⟨some 24, _, _, _, _, _⟩) (v := ?_) rfl (by kernel_rfl) (by kernel_rfl) (by kernel_rfl) (fun _ _ _ h => h) (Or.inl ⟨by rfl, ?_⟩) (by assumption) ?_
  rotate_left
  · intro w hSw
    (try dsimp only at hSw)
    go_simp
    all_goals (try with_reducible rfl)
  (try simp only [Act.put, List.setIfInBounds_toArray, List.set_cons_zero, List.set_cons_succ])
  refine wpAnyH_take (i := 1) (oi := ⟨some 25, _, _, _, _, _⟩) (v := (.int .i64 (max (p.m + K1 - 3) 1))) rfl (by kernel_rfl) (by kernel_rfl) (by kernel_rfl) (fun _ _ _ h => h) (Or.inl ⟨by rfl, ?_⟩) (by assumption) ?_
  · intro w hSw
    exact exec_max rfl rfl rfl
  (try simp only [Act.put, List.setIfInBounds_toArray, List.set_cons_zero, List.set_cons_succ])
  refine wpAnyH_take (i := 2) (oi := ⟨some 26, _, _, _, _, _⟩) (v := ?_) rfl (by kernel_rfl) (by kernel_rfl) (by kernel_rfl) (fun _ _ _ h => h) (Or.inl ⟨by rfl, ?_⟩) (by assumption) ?_
  rotate_left
  · intro w hSw
    (try dsimp only at hSw)
    go_simp
    all_goals (try with_reducible rfl)
  (try simp only [Act.put, List.setIfInBounds_toArray, List.set_cons_zero, List.set_cons_succ])
  refine wpAnyH_take (i := 3) (oi := ⟨some 27, _, _, _, _, _⟩) (v := (.int .i64 p.l)) rfl (by kernel_rfl) (by kernel_rfl) (by kernel_rfl) (fun _ _ _ h => h) (Or.inl ⟨by rfl, ?_⟩) (by assumption) ?_
  · intro w hSw
    have q0 := hSw.1.cell 2 (by simp)
    simp only [List.getElem_cons_zero, List.getElem_cons_succ] at q0
    go_simp
  (try simp only [Act.put, List.setIfInBounds_toArray, List.set_cons_zero, List.set_cons_succ])
  refine wpAnyH_take (i := 4) (oi := ⟨some 28, _, _, _, _, _⟩) (v := ?_) rfl (by kernel_rfl) (by kernel_rfl) (by kernel_rfl) (fun _ _ _ h => h) (Or.inl ⟨by rfl, ?_⟩) (by assumption) ?_
  rotate_left
  · intro w hSw
    (try dsimp only at hSw)
    go_simp
    all_goals (try with_reducible rfl)
  (try simp only [Act.put, List.setIfInBounds_toArray, List.set_cons_zero, List.set_cons_succ])
  refine wpAnyH_take (i := 5) (oi := ⟨some 29, _, _, _, _, _⟩) (v := (.int .i64 r.skew)) rfl (by kernel_rfl) (by kernel_rfl) (by kernel_rfl) (fun _ _ _ h => h) (Or.inl ⟨by rfl, ?_⟩) (by assumption) ?_
  · intro w hSw
    have q0 := hSw.2.cell 2 (by simp)
    simp only [List.getElem_cons_zero, List.getElem_cons_succ] at q0
    go_simp
  (try simp only [Act.put, List.setIfInBounds_toArray, List.set_cons_zero, List.set_cons_succ])
  refine wpAnyH_take (i := 6) (oi := ⟨some 30, _, _, _, _, _⟩) (v := ?_) rfl (by kernel_rfl) (by kernel_rfl) (by kernel_rfl) (fun _ _ _ h => h) (Or.inl ⟨by rfl, ?_⟩) (by assumption) ?_
  rotate_left
  · intro w hSw
    (try dsimp only at hSw)
    go_simp
    all_goals (try with_reducible rfl)
  (try simp only [Act.put, List.setIfInBounds_toArray, List.set_cons_zero, List.set_cons_succ])
  refine wpAnyH_take (i := 11) (oi := ⟨some 35, _, _, _, _, _⟩) (v := ?_) rfl (by kernel_rfl) (by kernel_rfl) (by kernel_rfl) (fun _ _ _ h => h) (Or.inl ⟨by rfl, ?_⟩) (by assumption) ?_
  rotate_left
  · intro w hSw
    (try dsimp only at hSw)
    go_simp
    all_goals (try with_reducible rfl)
  (try simp only [Act.put, List.setIfInBounds_toArray, List.set_cons_zero, List.set_cons_succ])
  refine wpAnyH_take (i := 12) (oi := ⟨some 36, _, _, _, _, _⟩) (v := (.int .i64 p.p)) rfl (by kernel_rfl) (by kernel_rfl) (by kernel_rfl) (fun _ _ _ h => h) (Or.inl ⟨by rfl, ?_⟩) (by assumption) ?_
  · intro w hSw
    have q0 := hSw.1.cell 3 (by simp)
    simp only [List.getElem_cons_zero, List.getElem_cons_succ] at q0
    go_simp
  (try simp only [Act.put, List.setIfInBounds_toArray, List.set_cons_zero, List.set_cons_succ])
  refine wpAnyH_take (i := 13) (oi := ⟨some 37, _, _, _, _, _⟩) (v := ?_) rfl (by kernel_rfl) (by kernel_rfl) (by kernel_rfl) (fun _ _ _ h => h) (Or.inl ⟨by rfl, ?_⟩) (by assumption) ?_
  rotate_left
  · intro w hSw
    (try dsimp only at hSw)
    go_simp
    all_goals (try with_reducible rfl)
  (try simp only [Act.put, List.setIfInBounds_toArray, List.set_cons_zero, List.set_cons_succ])
  refine wpAnyH_take (i := 14) (oi := ⟨some 38, _, _, _, _, _⟩) (v := (.int .i64 r.twist)) rfl (by kernel_rfl) (by kernel_rfl) (by kernel_rfl) (fun _ _ _ h => h) (Or.inl ⟨by rfl, ?_⟩) (by assumption) ?_
  · intro w hSw
    have q0 := hSw.2.cell 3 (by simp)
    simp only [List.getElem_cons_zero, List.getElem_cons_succ] at q0
    go_simp
  (try simp only [Act.put, List.setIfInBounds_toArray, List.set_cons_zero, List.set_cons_succ])
  refine wpAnyH_take (i := 18) (oi := ⟨some 42, _, _, _, _, _⟩) (v := ?_) rfl (by kernel_rfl) (by kernel_rfl) (by kernel_rfl) (fun _ _ _ h => h) (Or.inl ⟨by rfl, ?_⟩) (by assumption) ?_
  rotate_left
  · intro w hSw
    (try dsimp only at hSw)
    go_simp
    all_goals (try with_reducible rfl)
  (try simp only [Act.put, List.setIfInBounds_toArray, List.set_cons_zero, List.set_cons_succ])
  refine wpAnyH_take (i := 19) (oi := ⟨some 43, _, _, _, _, _⟩) (v := ?_) rfl (by kernel_rfl) (by kernel_rfl) (by kernel_rfl) (fun _ _ _ h => h) (Or.inl ⟨by rfl, ?_⟩) (by assumption) ?_
  rotate_left
  · intro w hSw
    (try dsimp only at hSw)
    go_simp
    all_goals (try with_reducible rfl)
  (try simp only [Act.put, List.setIfInBounds_toArray, List.set_cons_zero, List.set_cons_succ])
  refine wpAnyH_ready (rs := [7]) (by kernel_rfl) (by simp) ?_
  refine AllReadyH.cons (o := ⟨some 31, _, _, _, _, _⟩) rfl (fun K hK => ?_) AllReadyH.nil
  go_simp
  refine (mod_any (r.skew + 2) 5 _ HT2.out (by decide) (by decide)).mono ?_
  rintro en wx ⟨rfl, rfl⟩
  rw [HK2.out]
  refine hK.out _ _ hSw0 (fun hSn => ?_)
  clear hK K hSn
  (try simp only [Act.put, List.setIfInBounds_toArray, List.set_cons_zero, List.set_cons_succ])
  refine wpAnyH_take (i := 8) (oi := ⟨some 32, _, _, _, _, _⟩) (v := ?_) rfl (by kernel_rfl) (by kernel_rfl) (by kernel_rfl) (fun _ _ _ h => h) (Or.inl ⟨by rfl, ?_⟩) (by assumption) ?_
  rotate_left
  · intro w hSw
    (try dsimp only at hSw)
    go_simp
    all_goals (try with_reducible rfl)
  (try simp only [Act.put, List.setIfInBounds_toArray, List.set_cons_zero, List.set_cons_succ])
  refine wpAnyH_take (i := 9) (oi := ⟨some 33, _, _, _, _, _⟩) (v := ?_) rfl (by kernel_rfl) (by kernel_rfl) (by kernel_rfl) (fun _ _ _ h => h) (Or.inl ⟨by rfl, ?_⟩) (by assumption) ?_
  rotate_left
  · intro w hSw
    (try dsimp only at hSw)
    go_simp
    all_goals (try with_reducible rfl)
  (try simp only [Act.put, List.setIfInBounds_toArray, List.set_cons_zero, List.set_cons_succ])
  refine wpAnyH_take (i := 10) (oi := ⟨some 34, _, _, _, _, _⟩) (v := (.int .i64 (max (p.l + K2 - 2) 1))) rfl (by kernel_rfl) (by kernel_rfl) (by kernel_rfl) (fun _ _ _ h => h) (Or.inl ⟨by rfl, ?_⟩) (by assumption) ?_
  · intro w hSw
    exact exec_max rfl rfl rfl
  (try simp only [Act.put, List.setIfInBounds_toArray, List.set_cons_zero, List.set_cons_succ])
  refine wpAnyH_ready (rs := [15]) (by kernel_rfl) (by simp) ?_
  refine AllReadyH.cons (o := ⟨some 39, _, _, _, _, _⟩) rfl (fun K hK => ?_) AllReadyH.nil
  go_simp
  refine (mod_any r.twist 3 _ HT3.out (by decide) (by decide)).mono ?_
  rintro en wx ⟨rfl, rfl⟩
  rw [HK3.out]
  refine hK.out _ _ hSw0 (fun hSn => ?_)
  clear hK K hSn
  (try simp only [Act.put, List.setIfInBounds_toArray, List.set_cons_zero, List.set_cons_succ])
  refine wpAnyH_take (i := 16) (oi := ⟨some 40, _, _, _, _, _⟩) (v := ?_) rfl (by kernel_rfl) (by kernel_rfl) (by kernel_rfl) (fun _ _ _ h => h) (Or.inl ⟨by rfl, ?_⟩) (by assumption) ?_
  rotate_left
  · intro w hSw
    (try dsimp only at hSw)
    go_simp
    all_goals (try with_reducible rfl)
  (try simp only [Act.put, List.setIfInBounds_toArray, List.set_cons_zero, List.set_cons_succ])
  refine wpAnyH_ready (rs := [17]) (by kernel_rfl) (by simp) ?_
  refine AllReadyH.cons (o := ⟨some 41, _, _, _, _, _⟩) rfl (fun K hK => ?_) AllReadyH.nil
  go_simp
  refine (mod_any (p.p + K3) 4294967296 _ HT4.out (by decide) (by decide)).mono ?_
  rintro en wx ⟨rfl, rfl⟩
  rw [HK4.out]
  refine hK.out _ _ hSw0 (fun hSn => ?_)
  clear hK K hSn
  (try simp only [Act.put, List.setIfInBounds_toArray, List.set_cons_zero, List.set_cons_succ])
  refine wpAnyH_take (i := 20) (oi := ⟨some 44, _, _, _, _, _⟩) (v := ?_) rfl (by kernel_rfl) (by kernel_rfl) (by kernel_rfl) (fun _ _ _ h => h) (Or.inl ⟨by rfl, ?_⟩) (by assumption) ?_
  rotate_left
  · intro w hSw
    (try dsimp only at hSw)
    go_simp
    all_goals (try with_reducible rfl)
  (try simp only [Act.put, List.setIfInBounds_toArray, List.set_cons_zero, List.set_cons_succ])
  refine wpAnyH_ready (rs := [21]) (by kernel_rfl) (by simp) ?_
  refine AllReadyH.cons (o := ⟨none, _, _, _, _, _⟩) rfl (fun K hK => ?_) AllReadyH.nil
  refine step_store_own rfl 56 (.tmp 4) (.tmp 44) rfl fz [.int .i64 0, .int .i64 0, .int .i64 0, .slice none 0 0, .slice none 0 0] [.int .i64 (max (p.m + K1 - 3) 1), .int .i64 (max (p.l + K2 - 2) 1), .int .i64 K4, .slice s1 s2 s3, .slice t1 t2 t3] (by kernel_rfl) rfl rfl (HD8.out.boxi 0 rfl) rfl (by intro u hu; simp at hu; rcases hu with rfl | rfl | rfl | rfl | rfl <;> rfl) ?_
  intro w9 ho9 hO9
  have HD9 := Lib.hid (HD8.out.call1 0 rfl ho9 hO9)
  have HO9 := Lib.hid (HOR2.out.trans' hO9)
  clear ho9 hO9 HD8
  refine hK.out _ _ ⟨HD9.out.boxi 2 rfl, HD9.out.boxi 1 rfl⟩ (fun hSn => ?_)
  clear hK K hSw0 hSn
  (try simp only [Act.put, List.setIfInBounds_toArray, List.set_cons_zero, List.set_cons_succ])
  refine wpAnyH_done (by kernel_rfl) ?_ _
  have hfz := HD9.out.boxi 0 rfl
  have z0 := hfz.cell 0 (by simp)
  have z1 := hfz.cell 1 (by simp)
  have z2 := hfz.cell 2 (by simp)
  have z3 := hfz.cell 3 (by simp)
  have z4 := hfz.cell 4 (by simp)
  simp only [List.getElem_cons_zero, List.getElem_cons_succ] at z0 z1 z2 z3 z4
  clear hfz
  go_wp2
  (try simp only [Exit.inBlock, Exit.then])
  refine bodyPost_ret (v := .agg #[.int .i64 (max (p.m + K1 - 3) 1), .int .i64 (max (p.l + K2 - 2) 1), .int .i64 K4, .slice s1 s2 s3, .slice t1 t2 t3]) ?_ rfl ?_
  · simp only [results, HRES.out]
    go_simp
  · rw [HE.out]
    refine ⟨(s1, s2, s3), (t1, t2, t3), rfl, fun W hW => HFC.out W (fun k o hk ho hc => hW k o (by have := HWF.out; have := HSZ.out; omega) ((HO9.out.block k (lt_of_obj ho) (by have := HSZ.out; simp; omega)).trans ho) hc), HD9.out.only⟩
end Go.Proofs.YtgcfdjcpcclcjaaGreat
namespace Go.Kn
open Go Go.RowKit
instance : DecidableEq Rc := fun a b => by
  rcases a with ⟨a1, a2, a3, a4, a5⟩
  rcases b with ⟨b1, b2, b3, b4, b5⟩
  rw [Rc.mk.injEq]
  exact inferInstance
end Go.Kn
namespace Go.Proofs.YtgcfdjcpcclcjaaGreat
open Go Go.RowKit Go.Kn
set_option maxRecDepth 100000 in
set_option maxHeartbeats 8000000 in
theorem ref_rec_may_no (m n p : Int) (A : Option Addr) (na ca : Nat) (B : Option Addr) (nb cb : Nat) (w : World) (ha : na ≤ ca) (hb : ca ≤ maxLen)
    (h : (decide (1 ≤ m ∧ m ≤ 2147483647) && (decide (1 ≤ n ∧ n ≤ 2147483647) && (decide (0 ≤ p ∧ p ≤ 4294967295) && decide (1 ≤ (na : Int) ∧ (na : Int) ≤ 6)))) = false) :
    Calls Tryz.prog 86 #[.agg #[.int .i64 m, .int .i64 n, .int .i64 p, .slice A na ca, .slice B nb cb]] w fun e w' => e = .returned (.bool false) ∧ Only [] w w' := by
  unfold maxLen at hb
  obtain ⟨b1, h1⟩ : ∃ b, decide (1 ≤ m ∧ m ≤ 2147483647) = b := ⟨_, rfl⟩
  obtain ⟨b2, h2⟩ : ∃ b, decide (1 ≤ n ∧ n ≤ 2147483647) = b := ⟨_, rfl⟩
  obtain ⟨b3, h3⟩ : ∃ b, decide (0 ≤ p ∧ p ≤ 4294967295) = b := ⟨_, rfl⟩
  obtain ⟨b4, h4⟩ : ∃ b, decide (1 ≤ (na : Int) ∧ (na : Int) ≤ 6) = b := ⟨_, rfl⟩
  rw [h1, h2, h3, h4] at h
  have H1 := Lib.hid h1
  have H2 := Lib.hid h2
  have H3 := Lib.hid h3
  have H4 := Lib.hid h4
  clear h1 h2 h3 h4
  cases b1 <;> cases b2 <;> cases b3 <;> cases b4 <;> first
    | (exact absurd h (by decide))
    | (clear h
       go_enter Tryz.func86, Tryz.ntmps86
       go_wp2_with (first | (go_at_call 99; refine (within_any _ _ _ _).mono ?_; rintro e w' ⟨rfl, rfl⟩; first | rw [H1.out] | rw [H2.out] | rw [H3.out] | rw [H4.out]))
       go_ret
       exact ⟨rfl, (Only.refl _ _).alloc _⟩)
set_option maxRecDepth 100000 in
set_option maxHeartbeats 8000000 in
theorem ref_rec_may_yes (m n p : Int) (A : Option Addr) (na ca : Nat) (its : List It) (B : Option Addr) (nb cb : Nat) (bl : List (List UInt8)) (w : World) (hi : Its w A na ca its) (hj : Blks w B nb cb bl)
    (h : rcHeadMay ⟨m, n, p, its, bl⟩ = true) :
    Calls Tryz.prog 86 #[.agg #[.int .i64 m, .int .i64 n, .int .i64 p, .slice A na ca, .slice B nb cb]] w fun e w' => e = .returned (.bool (rcMay ⟨m, n, p, its, bl⟩)) ∧ Only [] w w' := by
  have hlen := hi.len
  have hcm := hi.cm
  have hcl := hi.le
  have hln := hj.len
  have hdm := hj.cm
  have hdl := hj.le
  unfold maxLen at hcm hdm
  have h' := h
  unfold rcHeadMay at h'
  simp only [Bool.and_eq_true, decide_eq_true_eq] at h'
  have h1 : decide (1 ≤ m ∧ m ≤ 2147483647) = true := by simp; omega
  have h2 : decide (1 ≤ n ∧ n ≤ 2147483647) = true := by simp; omega
  have h3 : decide (0 ≤ p ∧ p ≤ 4294967295) = true := by simp; omega
  have h4 : decide (1 ≤ (na : Int) ∧ (na : Int) ≤ 6) = true := by simp; omega
  have hna : na ≤ 6 := by omega
  have HX := Lib.hid (And.intro h1 (And.intro h2 (And.intro h3 h4)))
  have HI := Lib.hid hi
  have HJ := Lib.hid hj
  have HL := Lib.hid hlen
  have HLB := Lib.hid hln
  have HH := Lib.hid h
  clear h1 h2 h3 h4 h' h hi hj hlen hln
  go_enter Tryz.func86, Tryz.ntmps86
  go_upto_region 3 with (first | (go_at_call 99; refine (within_any _ _ _ _).mono ?_; rintro e w' ⟨rfl, rfl⟩; first | rw [HX.out.1] | rw [HX.out.2.1] | rw [HX.out.2.2.1] | rw [HX.out.2.2.2]))
  have hO0 := (Only.refl [] w).alloc (.cells #[.int .i64 m, .int .i64 n, .int .i64 p, .slice A na ca, .slice B nb cb] 56)
  have hbx := Own.new w #[.int .i64 m, .int .i64 n, .int .i64 p, .slice A na ca, .slice B nb cb] 56
  have x3 := hbx.cell 3 (by simp)
  have x4 := hbx.cell 4 (by simp)
  simp only [List.getElem_cons_zero, List.getElem_cons_succ] at x3 x4
  generalize w.alloc (.cells #[.int .i64 m, .int .i64 n, .int .i64 p, .slice A na ca, .slice B nb cb] 56) = w1 at *
  have HO := Lib.hid hO0
  have X3 := Lib.hid x3
  have X4 := Lib.hid x4
  clear hO0 hbx x3 x4
  go_wp2_with fail
  go_loopg [3, 4] na (fun r ld i wr => ∃ j : Nat, j + r = na ∧ ld = .int .i64 (loads (its.take j) : Nat) ∧ i = .int .i64 j ∧ Only [] w1 wr ∧ (its.take j).all It.may = true)
  case atStart => exact ⟨0, by omega, by simp [loads], rfl, Only.refl _ _, by simp⟩
  obtain ⟨j, hj, rfl, rfl, hO, hal⟩ := hrel
  have HO1 := Lib.hid hO
  have HAL := Lib.hid hal
  have hld := loads_le (its.take j)
  rw [List.length_take] at hld
  have x3 := hO.cell X3.out (by simp)
  clear hO hal
  by_cases hlt : j < na
  · have hjz : j < its.length := by rw [HL.out]; exact hlt
    obtain ⟨a, o, rfl, hc⟩ := HI.out.at_ (by omega)
    obtain ⟨q0, q1, q2, q3⟩ := hc j hjz
    have c0 := HO1.out.cell (HO.out.cell q0 (by simp)) (by simp)
    have c1 := HO1.out.cell (HO.out.cell q1 (by simp)) (by simp)
    have c2 := HO1.out.cell (HO.out.cell q2 (by simp)) (by simp)
    have c3 := HO1.out.cell (HO.out.cell q3 (by simp)) (by simp)
    have HIT : Hid (its[j] = ⟨its[j].k, its[j].b, its[j].c, its[j].v⟩) := Lib.hid rfl
    have HLT := Lib.hid (loads_take hjz)
    have hlt2 : (j : Int) < (na : Int) := by omega
    have hge : 0 ≤ (j : Int) := by omega
    have htn : ((j : Int)).toNat = j := by omega
    clear hc q0 q1 q2 q3
    cases hm : its[j].may
    · have HM := Lib.hid hm
      clear hm
      generalize hik : its[j].k = ik at *
      generalize hib : its[j].b = ib at *
      generalize hic : its[j].c = ic at *
      generalize hiv : its[j].v = iv at *
      have HME : Hid (It.may ⟨ik, ib, ic, iv⟩ = false) := Lib.hid (by rw [← HIT.out]; exact HM.out)
      clear hik hib hic hiv
      go_wp2_with fail
      refine (ref_item_may_any ik ib ic iv _).mono ?_
      rintro e w2 ⟨rfl, hO2⟩
      rw [HME.out]
      go_wp2
      go_ret
      exact ⟨by rw [rcMay_its (r := ⟨m, n, p, its, bl⟩) hjz HM.out]; rfl, (HO.out.trans' HO1.out).trans' hO2⟩
    · have HM := Lib.hid hm
      clear hm
      obtain ⟨q, hq⟩ : ∃ q, its[j].loaded = q := ⟨_, rfl⟩
      have HQ := Lib.hid hq
      clear hq
      generalize hik : its[j].k = ik at *
      generalize hib : its[j].b = ib at *
      generalize hic : its[j].c = ic at *
      generalize hiv : its[j].v = iv at *
      have HME : Hid (It.may ⟨ik, ib, ic, iv⟩ = true) := Lib.hid (by rw [← HIT.out]; exact HM.out)
      have HQE : Hid (It.loaded ⟨ik, ib, ic, iv⟩ = q) := Lib.hid (by rw [← HIT.out]; exact HQ.out)
      clear hik hib hic hiv
      go_wp2_with fail
      refine (ref_item_may_any ik ib ic iv _).mono ?_
      rintro e w2 ⟨rfl, hO2⟩
      rw [HME.out]
      have d0 := hO2.cell c0 (by simp)
      have d1 := hO2.cell c1 (by simp)
      have d2 := hO2.cell c2 (by simp)
      have d3 := hO2.cell c3 (by simp)
      have y3 := hO2.cell x3 (by simp)
      have HO2 := Lib.hid (HO1.out.trans' hO2)
      clear hO2 c0 c1 c2 c3 x3
      generalize hlv : loads (its.take j) = lv at *
      have hl9 : lv ≤ 6 := by omega
      cases q
      · go_wp2_with fail
        refine (ref_item_loaded_any ik ib ic iv _).mono ?_
        rintro e w3 ⟨rfl, hO3⟩
        rw [HQE.out]
        have HO3 := Lib.hid (HO2.out.trans' hO3)
        clear hO3 d0 d1 d2 d3 y3
        go_wp2
        go_roundg (gk - 1)
        case measure => omega
        case rel => exact ⟨j + 1, by omega, by rw [HLT.out, HQ.out]; rfl, by go_num, HO3.out, all_take hjz HAL.out HM.out⟩
      · go_wp2_with fail
        refine (ref_item_loaded_any ik ib ic iv _).mono ?_
        rintro e w3 ⟨rfl, hO3⟩
        rw [HQE.out]
        have HO3 := Lib.hid (HO2.out.trans' hO3)
        clear hO3 d0 d1 d2 d3 y3
        go_wp2
        go_roundg (gk - 1)
        case measure => omega
        case rel => exact ⟨j + 1, by omega, by rw [HLT.out, HQ.out, if_pos rfl]; go_num, by go_num, HO3.out, all_take hjz HAL.out HM.out⟩
  · obtain rfl : j = na := by omega
    have hfull : its.take j = its := List.take_of_length_le (by rw [HL.out]; omega)
    have hal := HAL.out
    rw [hfull] at hal hld ⊢
    have HAL' := Lib.hid hal
    have HY := Lib.hid (rcMay_yes (r := ⟨m, n, p, its, bl⟩) HH.out HAL'.out)
    have x4 := HO1.out.cell X4.out (by simp)
    have hlb := HLB.out
    generalize hlv : loads its = lv at *
    have hl9 : lv ≤ 6 := by omega
    have hd : decide (bl.length = lv) = decide (nb = lv) := by rw [hlb]
    have HD := Lib.hid hd
    clear hal hfull hlv hd hlb
    by_cases hnl : nb = lv
    · have hn1 : ((lv : Int) != (nb : Int)) = false := by simp; omega
      subst hnl
      have HOA := Lib.hid (HO.out.trans' HO1.out)
      clear hn1
      go_wp2_with fail
      generalize hwq : wr = wq at *
      clear hwq
      go_loopg [5] nb (fun r i wr => ∃ t : Nat, t + r = nb ∧ i = .int .i64 t ∧ wq = wr ∧ full64 (bl.take t) = true)
      case atStart => exact ⟨0, by omega, rfl, rfl, by simp [full64]⟩
      obtain ⟨t, ht, rfl, rfl, hal⟩ := hrel
      have HFT := Lib.hid hal
      clear hal
      by_cases hlt2 : t < nb
      · have hjz : t < bl.length := by rw [HLB.out]; exact hlt2
        obtain ⟨a, o, B', m', d', rfl, c0, hb⟩ := ((HJ.out.keep0 HO.out).keep0 HO1.out).at_ t hlt2
        have hbl := hb.len
        have hbm := hb.le
        have hbd := hb.cm
        rw [bvs_length] at hbl
        unfold maxLen at hbd
        have hlt3 : (t : Int) < (nb : Int) := by omega
        have hge : 0 ≤ (t : Int) := by omega
        have htn : ((t : Int)).toNat = t := by omega
        cases hm : is64 bl[t]
        · have HM := Lib.hid hm
          have h64 : ((m' : Int) != 64) = true := by unfold is64 at hm; simp at hm ⊢; omega
          clear hm hb hbl
          go_wp2
          go_ret
          exact ⟨by rw [HY.out, full_no hjz HM.out, Bool.and_false]; rfl, HOA.out⟩
        · have HM := Lib.hid hm
          have h64 : ((m' : Int) != 64) = false := by unfold is64 at hm; simp at hm ⊢; omega
          clear hm hb hbl
          go_wp2
          go_roundg (gk - 1)
          case measure => omega
          case rel => exact ⟨t + 1, by omega, by go_num, rfl, full_take hjz HFT.out HM.out⟩
      · obtain rfl : t = nb := by omega
        have hfull : bl.take t = bl := List.take_of_length_le (by rw [HLB.out]; omega)
        have hal := HFT.out
        rw [hfull] at hal
        have HF := Lib.hid hal
        clear hal hfull
        go_wp2
        go_ret
        exact ⟨by rw [HY.out, HD.out, HF.out]; simp, HOA.out⟩
    · have hn1 : ((lv : Int) != (nb : Int)) = true := by simp; omega
      have HNL := Lib.hid hnl
      clear hnl
      go_wp2_with fail
      go_ret
      refine ⟨?_, HO.out.trans' HO1.out⟩
      rw [HY.out, HD.out, decide_eq_false HNL.out]
      simp
theorem ref_rec_may_any (m n p : Int) (A : Option Addr) (na ca : Nat) (its : List It) (B : Option Addr) (nb cb : Nat) (bl : List (List UInt8)) (w : World) (hi : Its w A na ca its) (hj : Blks w B nb cb bl) :
    Calls Tryz.prog 86 #[.agg #[.int .i64 m, .int .i64 n, .int .i64 p, .slice A na ca, .slice B nb cb]] w fun e w' => e = .returned (.bool (rcMay ⟨m, n, p, its, bl⟩)) ∧ Only [] w w' := by
  cases h : rcHeadMay ⟨m, n, p, its, bl⟩ with
  | true => exact ref_rec_may_yes m n p A na ca its B nb cb bl w hi hj h
  | false =>
    rw [rcMay_head h]
    refine ref_rec_may_no m n p A na ca B nb cb w hi.le hi.cm ?_
    have hl := hi.len
    have e : decide (1 ≤ its.length ∧ its.length ≤ 6) = decide (1 ≤ (na : Int) ∧ (na : Int) ≤ 6) := by rw [hl]; congr 1; simp only [eq_iff_iff]; omega
    rw [← e]
    exact h
end Go.Proofs.YtgcfdjcpcclcjaaGreat
namespace Go.Kn
open Go Go.RowKit
theorem csum_more (a b : List UInt8) : 4294967295 - cadd (4294967295 - csum a) b = csum (a ++ b) := by
  have h := cadd_lt (x := 4294967295) (by decide) a
  unfold csum
  rw [show 4294967295 - (4294967295 - cadd 4294967295 a) = cadd 4294967295 a from by omega, cadd_append]
/-- a row of so many sectors, a summary laid but for its sum -/
theorem rc_row_t {r : Rc} (h : r.its.length ≤ 6) (k : Nat) : lay (List.replicate (64 * (1 + k)) 0) 0 (cat (rcFs r) ++ itsB r.its) = rcHead r ++ List.replicate (4 + 64 * k) 0 := by
  unfold rcHead lay
  have hl : (cat (rcFs r) ++ itsB r.its).length = 16 + 7 * r.its.length := by rw [List.length_append, rcFs_len, itsB_length]
  rw [hl, List.take_zero, List.nil_append, List.drop_replicate, List.append_assoc, List.append_assoc, List.append_assoc, List.replicate_append_replicate]
  congr 3
  omega
theorem rc_blocks {h60 : List UInt8} (h : h60.length = 60) (bl : List (List UInt8)) (hf : full64 bl = true) : lay (h60 ++ List.replicate (4 + 64 * bl.length) 0) 64 bl.flatten = h60 ++ (List.replicate 4 0 ++ bl.flatten) := by
  have hl := flat64 hf
  unfold lay
  have e1 : (h60 ++ List.replicate (4 + 64 * bl.length) (0 : UInt8)).take 64 = h60 ++ List.replicate 4 0 := by
    rw [List.take_append, h, List.take_of_length_le (by omega), List.take_replicate]
    congr 2
    omega
  rw [e1, List.drop_of_length_le (by rw [List.length_append, h, List.length_replicate, hl]; omega), List.append_nil, List.append_assoc]
theorem rc_sum_t {r : Rc} (h : r.its.length ≤ 6) (s : Nat) (x : List UInt8) : lay (rcHead r ++ (List.replicate 4 0 ++ x)) 60 (le 4 s) = rcHead r ++ (le 4 s ++ x) := by
  have hl := rcHead_length h
  unfold lay
  have e : rcHead r ++ (List.replicate 4 0 ++ x) = (rcHead r ++ List.replicate 4 0) ++ x := by rw [List.append_assoc]
  rw [List.take_left' hl, le_length, e, List.drop_left' (by rw [List.length_append, hl, List.length_replicate])]
end Go.Kn
namespace Go.Proofs.YtgcfdjcpcclcjaaGreat
open Go Go.RowKit Go.Kn
set_option maxRecDepth 100000 in
set_option maxHeartbeats 16000000 in
theorem ref_rec_enc_any (rm rn rp : Int) (A : Option Addr) (na ca : Nat) (its : List It) (B : Option Addr) (nb cb : Nat) (bl : List (List UInt8)) (w : World) (hi : Its w A na ca its) (hj : Blks w B nb cb bl) :
    Calls Tryz.prog 26 #[.agg #[.int .i64 rm, .int .i64 rn, .int .i64 rp, .slice A na ca, .slice B nb cb]] w (EncRc w (encRc ⟨rm, rn, rp, its, bl⟩) 1) := by
  have hlen := hi.len
  have hln := hj.len
  have hdl := hj.le
  have hdm := hj.cm
  have hcl := hi.le
  have hcm := hi.cm
  unfold maxLen at hcm hdm
  have HI := Lib.hid hi
  have HJ := Lib.hid hj
  have HL := Lib.hid hlen
  have HLB := Lib.hid hln
  have hO0 := (Only.refl [] w).alloc (.cells #[.int .i64 rm, .int .i64 rn, .int .i64 rp, .slice A na ca, .slice B nb cb] 56)
  have hbx := Own.new w #[.int .i64 rm, .int .i64 rn, .int .i64 rp, .slice A na ca, .slice B nb cb] 56
  have x0 := hbx.cell 0 (by simp)
  have x1 := hbx.cell 1 (by simp)
  have x2 := hbx.cell 2 (by simp)
  have x3 := hbx.cell 3 (by simp)
  have x4 := hbx.cell 4 (by simp)
  simp only [List.getElem_cons_zero, List.getElem_cons_succ] at x0 x1 x2 x3 x4
  clear hi hj hlen hln
  cases hm : rcMay ⟨rm, rn, rp, its, bl⟩
  · have HM := Lib.hid hm
    clear hm
    go_enter Tryz.func26, Tryz.ntmps26
    go_upto_region 1 with fail
    generalize w.alloc (.cells #[.int .i64 rm, .int .i64 rn, .int .i64 rp, .slice A na ca, .slice B nb cb] 56) = w0 at *
    have HO0 := Lib.hid hO0
    clear hO0 hbx
    go_wp2_with fail
    refine (ref_rec_may_any rm rn rp A na ca its B nb cb bl _ (by exact HI.out.keep0 HO0.out) (by exact HJ.out.keep0 HO0.out)).mono ?_
    rintro e w1 ⟨rfl, hO1⟩
    rw [HM.out]
    have HO1 := Lib.hid (HO0.out.trans' hO1)
    clear hO1 x0 x1 x2 x3 x4
    go_wp2
    go_ret3
    exact EncRc.no (by unfold encRc; rw [HM.out]; rfl) HO1.out
  · obtain ⟨⟨hm1, hm2, hm3, hm4, hm5⟩, hal, hbn, hbf⟩ := rcMay_iff.1 hm
    have hld := loads_le its
    have hna : na ≤ 6 := by rw [← HL.out]; exact hm5
    have hnb : nb ≤ 6 := by
      have h1 := HLB.out
      simp only at hbn hm5
      omega
    have HF1 : Hid (Fit 4 [rm, rn, rp]) := Lib.hid (by simp only [fit_cons, fit_nil, Int.reducePow, and_true] at *; omega)
    have HF2 : Hid (Fit 1 [(na : Int), (nb : Int)]) := Lib.hid (by simp only [fit_cons, fit_nil, Int.reducePow, and_true]; omega)
    have HE : Hid (encItems its = some (itsB its)) := Lib.hid (by unfold encItems; rw [if_pos ⟨hm5, hal⟩])
    have HM := Lib.hid hm
    have HM5 := Lib.hid hm5
    have HBF := Lib.hid hbf
    obtain ⟨L, hL⟩ : ∃ L, (itsB its).length = L := ⟨_, rfl⟩
    have hL7 : L = 7 * na := by rw [← hL, itsB_length, HL.out]
    have hL42 : L ≤ 42 := by omega
    have HLL := Lib.hid hL
    obtain ⟨T, hT⟩ : ∃ T, T = 64 * (1 + nb) := ⟨_, rfl⟩
    have HT := Lib.hid hT
    have hT1 : 64 ≤ T := by omega
    have hT2 : T ≤ 448 := by omega
    have hTi : (1 + (nb : Int)) * 64 = (T : Int) := by omega
    have hw0 : IntKind.i64.wrap (1 + (nb : Int)) = 1 + (nb : Int) := IntWalk.i64_in _ (by omega)
    have hw1 : IntKind.i64.wrap ((1 + (nb : Int)) * 64) = (T : Int) := by rw [hTi]; exact IntWalk.i64_in _ (by omega)
    have HTI := Lib.hid hTi
    clear hm hal hbn hbf hm1 hm2 hm3 hm4 hm5 hL hL7 hT hTi
    go_enter Tryz.func26, Tryz.ntmps26
    go_upto_region 1 with fail
    generalize hbb : w.heap.size = b at *
    have HSZ : Hid (w.heap.size ≤ b) := Lib.hid (by omega)
    have HBB := Lib.hid hbb
    generalize w.alloc (.cells #[.int .i64 rm, .int .i64 rn, .int .i64 rp, .slice A na ca, .slice B nb cb] 56) = w0 at *
    have HO0 := Lib.hid hO0
    clear hO0 hbb
    go_wp2_with fail
    refine (ref_rec_may_any rm rn rp A na ca its B nb cb bl _ (by exact HI.out.keep0 HO0.out) (by exact HJ.out.keep0 HO0.out)).mono ?_
    rintro e w1 ⟨rfl, hO1⟩
    rw [HM.out]
    have HB1 := Lib.hid (hbx.keep0 hO1)
    have HO1 := Lib.hid (HO0.out.trans' hO1)
    clear hO1 x0 x1 x2 x3 x4 hbx HO0
    have x4 := HB1.out.cell 4 (by simp)
    simp only [List.getElem_cons_zero, List.getElem_cons_succ] at x4
    go_wp2_with fail
    first | rw [HTI.out] | skip
    refine (ref_begun_any (T : Int) 75 82 75 82 _ rfl rfl (by omega) (by omega)).mono ?_
    rintro e w2 ⟨p, g, rfl, hp, hg, hr, hO⟩
    rw [Int.toNat_natCast] at hr
    have hz : (List.replicate T (0 : UInt8)).length = T := by rw [List.length_replicate]
    have HRW : Hid (lay (List.replicate T (0 : UInt8)) 0 (cat (rcFs ⟨rm, rn, rp, its, bl⟩) ++ itsB its) = rcHead ⟨rm, rn, rp, its, bl⟩ ++ List.replicate (4 + 64 * nb) 0) := Lib.hid (by rw [HT.out]; exact rc_row_t (r := ⟨rm, rn, rp, its, bl⟩) HM5.out nb)
    generalize List.replicate T (0 : UInt8) = zr at *
    have HZ := Lib.hid hz
    rw [show ([75, 82] : List UInt8) = cat [(1, 75), (1, 82)] from rfl] at hr
    have HS : Hid (Encs w w2 p g 2 b (lay zr 0 (cat [(1, 75), (1, 82)])) [.int .i64 rm, .int .i64 rn, .int .i64 rp, .slice A na ca, .slice B nb cb]) := Lib.hid (Encs.start HB1.out HO1.out hp hg hr hO)
    clear hr hO hp hg hz HB1 HO1 x4
    have HX : Hid ((lay zr 0 (cat [(1, 75), (1, 82)])).length = T) := Lib.hid (by rw [lay_length _ _ _ (by rw [cat_length, HZ.out]; show (2 : Nat) ≤ T; omega), HZ.out])
    have HLC := Lib.hid (lay_cat zr [(1, 75), (1, 82)] 2 4 [rm, rn, rp] rfl (by rw [HZ.out]; show (14 : Nat) ≤ T; omega))
    generalize lay zr 0 (cat [(1, 75), (1, 82)]) = X1 at *
    have x0 := HS.out.box.cell 0 (by simp)
    have x1 := HS.out.box.cell 1 (by simp)
    have x2 := HS.out.box.cell 2 (by simp)
    simp only [List.getElem_cons_zero, List.getElem_cons_succ] at x0 x1 x2
    go_wp2_with fail
    refine (ref_put_any p g 2 X1 4 _ 3 3 [rm, rn, rp] _ (by exact HS.out.row.alloc _) (by exact ins_built _ [rm, rn, rp] _ 3 rfl (by omega)) (by exact ne_built HS.out.row) (by decide) (by rw [HX.out]; omega) HF1.out).mono ?_
    rintro e w5 ⟨rfl, hr, hO⟩
    rw [HLC.out] at hr
    have HSn : Hid (Encs w w5 p g 14 b (lay zr 0 (cat ([(1, 75), (1, 82)] ++ [rm, rn, rp].map fun z => (4, z)))) [.int .i64 rm, .int .i64 rn, .int .i64 rp, .slice A na ca, .slice B nb cb]) := Lib.hid ((HS.out.alloc _).put hr hO)
    clear hr hO HS HX
    have HS := HSn
    clear HSn
    clear HLC x0 x1 x2
    have HX : Hid ((lay zr 0 (cat ([(1, 75), (1, 82)] ++ [rm, rn, rp].map fun z => (4, z)))).length = T) := Lib.hid (by rw [lay_length _ _ _ (by rw [cat_length, HZ.out]; show (14 : Nat) ≤ T; omega), HZ.out])
    have HLC := Lib.hid (lay_cat zr ([(1, 75), (1, 82)] ++ [rm, rn, rp].map fun z => (4, z)) 14 1 [(na : Int), (nb : Int)] rfl (by rw [HZ.out]; show (16 : Nat) ≤ T; omega))
    have HFS : Hid (([(1, 75), (1, 82)] ++ [rm, rn, rp].map fun z => (4, z)) ++ [(na : Int), (nb : Int)].map (fun z => (1, z)) = rcFs ⟨rm, rn, rp, its, bl⟩) := Lib.hid (by unfold rcFs; rw [HL.out, HLB.out]; rfl)
    generalize lay zr 0 (cat ([(1, 75), (1, 82)] ++ [rm, rn, rp].map fun z => (4, z))) = X2 at *
    have x3 := HS.out.box.cell 3 (by simp)
    have x4 := HS.out.box.cell 4 (by simp)
    simp only [List.getElem_cons_zero, List.getElem_cons_succ] at x3 x4
    go_wp2_with fail
    refine (ref_put_any p g 14 X2 1 _ 2 2 [(na : Int), (nb : Int)] _ (by exact HS.out.row.alloc _) (by exact ins_built _ [(na : Int), (nb : Int)] _ 2 rfl (by omega)) (by exact ne_built HS.out.row) (by decide) (by rw [HX.out]; omega) HF2.out).mono ?_
    rintro e w6 ⟨rfl, hr, hO⟩
    rw [HLC.out, HFS.out] at hr
    have HSn : Hid (Encs w w6 p g 16 b (lay zr 0 (cat (rcFs ⟨rm, rn, rp, its, bl⟩))) [.int .i64 rm, .int .i64 rn, .int .i64 rp, .slice A na ca, .slice B nb cb]) := Lib.hid ((HS.out.alloc _).put hr hO)
    clear hr hO HS HX
    have HS := HSn
    clear HSn
    clear HLC HFS x3 x4
    have hcl16 : (cat (rcFs ⟨rm, rn, rp, its, bl⟩)).length = 16 := rcFs_len _
    have HX : Hid ((lay zr 0 (cat (rcFs ⟨rm, rn, rp, its, bl⟩))).length = T) := Lib.hid (by rw [lay_length _ _ _ (by rw [hcl16, HZ.out]; omega), HZ.out])
    have HLI : Hid (lay (lay zr 0 (cat (rcFs ⟨rm, rn, rp, its, bl⟩))) 16 (itsB its) = rcHead ⟨rm, rn, rp, its, bl⟩ ++ List.replicate (4 + 64 * nb) 0) := Lib.hid (by
      have e := lay_lay zr 0 (cat (rcFs ⟨rm, rn, rp, its, bl⟩)) (itsB its) (by rw [hcl16, HLL.out, HZ.out]; omega)
      rw [hcl16, Nat.zero_add] at e
      rw [e]
      exact HRW.out)
    clear hcl16
    generalize lay zr 0 (cat (rcFs ⟨rm, rn, rp, its, bl⟩)) = X3 at *
    have x3 := HS.out.box.cell 3 (by simp)
    simp only [List.getElem_cons_zero, List.getElem_cons_succ] at x3
    go_wp2_with fail
    refine (ref_item_enc_any A na ca its _ (by exact HI.out.keep0 HS.out.only)).mono ?_
    rintro e w7 ⟨A2, c2, rfl, hb2, hn2, hO⟩
    rw [HE.out] at hb2 hn2 ⊢
    simp only [Option.getD_some, Option.isSome_some, if_true] at hb2 hn2 ⊢
    rw [HLL.out] at hb2 ⊢
    have HIB := Lib.hid hb2
    have HSn := Lib.hid (HS.out.keep hO)
    clear hb2 hn2 hO HS x3
    have HS := HSn
    clear HSn
    go_wp2_with fail
    refine (ref_lay_any p g 16 X3 A2 L c2 (itsB its) _ (by exact HS.out.row) (by exact HIB.out) (by rw [HX.out]; omega)).mono ?_
    rintro e w8 ⟨rfl, hr, hO⟩
    rw [HLI.out] at hr
    have hl60 := rcHead_length (r := ⟨rm, rn, rp, its, bl⟩) HM5.out
    have hX4 : (rcHead ⟨rm, rn, rp, its, bl⟩ ++ List.replicate (4 + 64 * nb) 0).length = T := by rw [List.length_append, hl60, List.length_replicate, HT.out]; omega
    have hbk : lay (rcHead ⟨rm, rn, rp, its, bl⟩ ++ List.replicate (4 + 64 * nb) 0) 64 bl.flatten = rcHead ⟨rm, rn, rp, its, bl⟩ ++ (List.replicate 4 0 ++ bl.flatten) := by
      have := rc_blocks hl60 bl HBF.out
      rw [HLB.out] at this
      exact this
    have HSn : Hid (Encs w w8 p g (16 + L) b (rcHead ⟨rm, rn, rp, its, bl⟩ ++ List.replicate (4 + 64 * nb) 0) [.int .i64 rm, .int .i64 rn, .int .i64 rp, .slice A na ca, .slice B nb cb]) := Lib.hid (HS.out.put hr hO)
    have HX4 := Lib.hid hX4
    have HL60 := Lib.hid hl60
    have HBK := Lib.hid hbk
    have hfl := flat64 HBF.out
    rw [HLB.out] at hfl
    have HFL := Lib.hid hfl
    clear hr hO HS HIB HX HLI hX4 hl60 hbk hfl
    have HS := HSn
    clear HSn
    generalize rcHead ⟨rm, rn, rp, its, bl⟩ ++ List.replicate (4 + 64 * nb) 0 = X4 at *
    have hy0 := HS.out.row.fk
    have hy1 := HS.out.row.pz 1
    have hlp := HS.out.row.lp
    go_upto_region 9 with fail
    have HSn : Hid (Encs w (w8.setCell ⟨p, 1, none⟩ (.int .i64 (64 : Nat))) p g 64 b X4 [.int .i64 rm, .int .i64 rn, .int .i64 rp, .slice A na ca, .slice B nb cb]) := Lib.hid (HS.out.put (HS.out.row.place 64 (by rw [HX4.out]; omega)) ((Only.refl [p, g] w8).set (by simp) _))
    rw [show ((64 : Nat) : Int) = 64 from rfl] at HSn
    clear HS hy0 hy1 hlp
    have HS := HSn
    clear HSn
    generalize w8.setCell ⟨p, 1, none⟩ (.int .i64 64) = w9 at *
    go_wp2_with fail
    go_loopg [8] nb (fun r i wr => ∃ t : Nat, t + r = nb ∧ i = .int .i64 t ∧ Encs w wr p g (64 + 64 * t) b (lay X4 64 (bl.take t).flatten) [.int .i64 rm, .int .i64 rn, .int .i64 rp, .slice A na ca, .slice B nb cb])
    case atStart => exact ⟨0, by omega, rfl, by simpa [lay_nil] using HS.out⟩
    obtain ⟨t, ht, rfl, hs⟩ := hrel
    have HR := Lib.hid hs
    clear hs HS
    by_cases hlt : t < nb
    · have hjz : t < bl.length := by rw [HLB.out]; exact hlt
      obtain ⟨ga, oa, B', m', d', rfl, q0, hb⟩ := HJ.out.at_ t hlt
      have c0 := HR.out.only.cell q0 (by simp)
      have hbl := hb.len
      rw [bvs_length, full64_get HBF.out t hjz] at hbl
      subst hbl
      have HB := Lib.hid (hb.keep0 HR.out.only)
      have hfe : (bl.take t).flatten.length = 64 * t := by
        have := flat64 (full64_take HBF.out t)
        rw [List.length_take, Nat.min_eq_left (by omega)] at this
        exact this
      have hnx : lay (lay X4 64 (bl.take t).flatten) (64 + 64 * t) bl[t] = lay X4 64 (bl.take (t + 1)).flatten := by
        have e := lay_lay X4 64 (bl.take t).flatten bl[t] (by rw [hfe, full64_get HBF.out t hjz, HX4.out, HT.out]; omega)
        rw [hfe] at e
        rw [e, ← flat_take hjz]
      have hxl : (lay X4 64 (bl.take t).flatten).length = T := by rw [lay_length _ _ _ (by rw [hfe, HX4.out, HT.out]; omega), HX4.out]
      have HNX := Lib.hid hnx
      have HXL := Lib.hid hxl
      have hlt2 : (t : Int) < (nb : Int) := by omega
      have hge : 0 ≤ (t : Int) := by omega
      have htn : ((t : Int)).toNat = t := by omega
      have hroom : 64 ≤ T - (64 + 64 * t) := by have := HT.out; omega
      have x4 := HR.out.box.cell 4 (by simp)
      simp only [List.getElem_cons_zero, List.getElem_cons_succ] at x4
      clear hb q0 hfe hnx hxl
      generalize bl[t] = bt at *
      generalize lay X4 64 (bl.take t).flatten = Xt at *
      generalize hXn : lay X4 64 (bl.take (t + 1)).flatten = Xn at *
      have HXn := Lib.hid hXn
      clear hXn
      go_wp2_with fail
      refine (ref_lay_any p g (64 + 64 * t) Xt B' 64 d' bt _ (by exact HR.out.row) (by exact HB.out) (by rw [HXL.out]; exact hroom)).mono ?_
      rintro e wq ⟨rfl, hr, hO⟩
      rw [HNX.out] at hr
      have HR2 : Hid (Encs w wq p g (64 + 64 * (t + 1)) b Xn [.int .i64 rm, .int .i64 rn, .int .i64 rp, .slice A na ca, .slice (some ⟨ga, oa, none⟩) nb cb]) := Lib.hid (by
        have := HR.out.put hr hO
        rwa [show 64 + 64 * t + 64 = 64 + 64 * (t + 1) from by omega] at this)
      clear hr hO HR x4 c0
      go_wp2
      go_roundg (gk - 1)
      case measure => omega
      case rel => exact ⟨t + 1, by omega, by go_num, by rw [HXn.out]; exact HR2.out⟩
    · obtain rfl : t = nb := by omega
      have htk : bl.take t = bl := List.take_of_length_le (by rw [HLB.out]; omega)
      have hr5 := HR.out
      rw [htk, HBK.out] at hr5
      have HS := Lib.hid hr5
      have x4 := HR.out.box.cell 4 (by simp)
      simp only [List.getElem_cons_zero, List.getElem_cons_succ] at x4
      have hX5 : (rcHead ⟨rm, rn, rp, its, bl⟩ ++ (List.replicate 4 0 ++ bl.flatten)).length = T := by rw [List.length_append, HL60.out, List.length_append, List.length_replicate, HFL.out, HT.out]; omega
      have hT5 : (rcHead ⟨rm, rn, rp, its, bl⟩ ++ (List.replicate 4 0 ++ bl.flatten)).take 60 = rcHead ⟨rm, rn, rp, its, bl⟩ := List.take_left' HL60.out
      have hD5 : ((rcHead ⟨rm, rn, rp, its, bl⟩ ++ (List.replicate 4 0 ++ bl.flatten)).drop 64).take (64 * t) = bl.flatten := by
        rw [← List.append_assoc, List.drop_left' (by rw [List.length_append, HL60.out, List.length_replicate]), List.take_of_length_le (by rw [HFL.out]; omega)]
      have hRS := rc_sum_t (r := ⟨rm, rn, rp, its, bl⟩) HM5.out (rcSum ⟨rm, rn, rp, its, bl⟩) bl.flatten
      have hRB : rcHead ⟨rm, rn, rp, its, bl⟩ ++ (le 4 (rcSum ⟨rm, rn, rp, its, bl⟩) ++ bl.flatten) = rcBytes ⟨rm, rn, rp, its, bl⟩ := rfl
      rw [hRB] at hRS
      have hsm : 4294967295 - cadd (4294967295 - csum (rcHead ⟨rm, rn, rp, its, bl⟩)) bl.flatten = rcSum ⟨rm, rn, rp, its, bl⟩ := csum_more _ _
      have hs32 : rcSum ⟨rm, rn, rp, its, bl⟩ < 4294967296 := csum_lt _
      have hrl := rcBytes_length (r := ⟨rm, rn, rp, its, bl⟩) HM.out
      have HENC : Hid (encRc ⟨rm, rn, rp, its, bl⟩ = some (rcBytes ⟨rm, rn, rp, its, bl⟩, rcSum ⟨rm, rn, rp, its, bl⟩)) := Lib.hid (enc_rc HM.out)
      generalize rcHead ⟨rm, rn, rp, its, bl⟩ ++ (List.replicate 4 0 ++ bl.flatten) = X5 at *
      generalize rcSum ⟨rm, rn, rp, its, bl⟩ = s at *
      generalize rcBytes ⟨rm, rn, rp, its, bl⟩ = RB at *
      rw [← hT5, ← hD5] at hsm
      have HX5 := Lib.hid hX5
      have HSM := Lib.hid hsm
      have HRS := Lib.hid hRS
      have HRL := Lib.hid hrl
      obtain ⟨A0, c0, hf0, hfb, hfA⟩ := row_bys HS.out.row
      rw [HX5.out] at hf0 hfb hfA
      obtain rfl := hfA (by omega)
      have hTc := hfb.le
      have hcM := hfb.cm
      have hcM2 := hcM
      unfold maxLen at hcM2
      have hc60 : (60 : Int) ≤ (c0 : Int) := by omega
      obtain ⟨A64, hA64⟩ : ∃ x, cutA (some (⟨g, 0, none⟩ : Addr)) c0 64 = x := ⟨_, rfl⟩
      have hs64 : ∀ w, (Instr.slice 47 (.slice (some ⟨g, 0, none⟩) T c0) (some (.int .i64 64)) none none).run Tryz.prog w = .ok (.slice A64 (64 * t) (c0 - 64)) w := fun w => by
        have := run_slice1_lo (P := Tryz.prog) w 47 5 Tryz.underlying47 (by kernel_rfl) (some ⟨g, 0, none⟩) T c0 64 64 (64 * t) .i64 rfl (by omega) (by have := HT.out; omega)
        rwa [hA64] at this
      have HC1 : Hid (∀ V, Bys V (some ⟨g, 0, none⟩) T c0 X5 → Bys V (some ⟨g, 0, none⟩) 60 c0 (X5.take 60)) := Lib.hid (fun V h => by
        have h2 := h.cut (l := 0) (m := 60) (by omega)
        rw [bvs_cut, List.drop_zero, Nat.sub_zero] at h2
        have e : cutA (some (⟨g, 0, none⟩ : Addr)) c0 0 = some ⟨g, 0, none⟩ := by
          rw [cutA, if_neg (by omega)]
          simp [Addr.add]
        rwa [e] at h2)
      have HC2 : Hid (∀ V, Bys V (some ⟨g, 0, none⟩) T c0 X5 → Bys V A64 (64 * t) (c0 - 64) ((X5.drop 64).take (64 * t))) := Lib.hid (fun V h => by
        have h2 := h.cut (l := 64) (m := 64 * t) (by have := HT.out; omega)
        rwa [bvs_cut, hA64] at h2)
      have HFB := Lib.hid hfb
      clear htk hr5 hX5 hT5 hD5 hRS hRB hsm hrl hfb hfA hA64 hlt HR HBK
      go_wp2_with fail
      have HSd := Lib.hid HS.out.drew
      have HFBd := Lib.hid HFB.out.drew
      clear HS HFB
      refine wp_region_held_drew (S := (fun w' => w'.cell? ⟨p, 0, none⟩ = some (.slice (some ⟨g, 0, none⟩) T c0))) (by kernel_rfl) hf0 (fun hSw0 => ?_)
      refine wpAnyH_take (i := 0) (oi := ⟨some 63, _, _, _, _, _⟩) (v := ?_) rfl (by kernel_rfl) (by kernel_rfl) (by kernel_rfl) (fun _ _ _ h => h) (Or.inl ⟨by rfl, ?_⟩) (by assumption) ?_
      rotate_left
      · intro w hSw
        (try dsimp only at hSw)
        go_simp
        all_goals (try with_reducible rfl)
      (try simp only [Act.put, List.setIfInBounds_toArray, List.set_cons_zero, List.set_cons_succ])
      refine wpAnyH_take (i := 1) (oi := ⟨some 64, _, _, _, _, _⟩) (v := ?_) rfl (by kernel_rfl) (by kernel_rfl) (by kernel_rfl) (fun _ _ _ h => h) (Or.inl ⟨by rfl, ?_⟩) (by assumption) ?_
      rotate_left
      · intro w hSw
        (try dsimp only at hSw)
        go_simp
        all_goals (try with_reducible rfl)
      (try simp only [Act.put, List.setIfInBounds_toArray, List.set_cons_zero, List.set_cons_succ])
      refine wpAnyH_take (i := 2) (oi := ⟨some 65, _, _, _, _, _⟩) (v := ?_) rfl (by kernel_rfl) (by kernel_rfl) (by kernel_rfl) (fun _ _ _ h => h) (Or.inl ⟨by rfl, ?_⟩) (by assumption) ?_
      rotate_left
      · intro w hSw
        (try dsimp only at hSw)
        go_simp
        all_goals (try with_reducible rfl)
      (try simp only [Act.put, List.setIfInBounds_toArray, List.set_cons_zero, List.set_cons_succ])
      refine wpAnyH_take (i := 3) (oi := ⟨some 66, _, _, _, _, _⟩) (v := ?_) rfl (by kernel_rfl) (by kernel_rfl) (by kernel_rfl) (fun _ _ _ h => h) (Or.inl ⟨by rfl, ?_⟩) (by assumption) ?_
      rotate_left
      · intro w hSw
        (try dsimp only at hSw)
        go_simp
        all_goals (try with_reducible rfl)
      (try simp only [Act.put, List.setIfInBounds_toArray, List.set_cons_zero, List.set_cons_succ])
      refine wpAnyH_take (i := 4) (oi := ⟨some 67, _, _, _, _, _⟩) (v := ?_) rfl (by kernel_rfl) (by kernel_rfl) (by kernel_rfl) (fun _ _ _ h => h) (Or.inl ⟨by rfl, ?_⟩) (by assumption) ?_
      rotate_left
      · intro w hSw
        (try dsimp only at hSw)
        go_simp
        all_goals (try with_reducible rfl)
      (try simp only [Act.put, List.setIfInBounds_toArray, List.set_cons_zero, List.set_cons_succ])
      refine wpAnyH_take (i := 6) (oi := ⟨some 69, _, _, _, _, _⟩) (v := ?_) rfl (by kernel_rfl) (by kernel_rfl) (by kernel_rfl) (fun _ _ _ h => h) (Or.inl ⟨by rfl, ?_⟩) (by assumption) ?_
      rotate_left
      · intro w hSw
        (try dsimp only at hSw)
        go_simp
        all_goals (try with_reducible rfl)
      (try simp only [Act.put, List.setIfInBounds_toArray, List.set_cons_zero, List.set_cons_succ])
      refine wpAnyH_take (i := 7) (oi := ⟨some 70, _, _, _, _, _⟩) (v := ?_) rfl (by kernel_rfl) (by kernel_rfl) (by kernel_rfl) (fun _ _ _ h => h) (Or.inl ⟨by rfl, ?_⟩) (by assumption) ?_
      rotate_left
      · intro w hSw
        (try dsimp only at hSw)
        go_simp
        all_goals (try with_reducible rfl)
      (try simp only [Act.put, List.setIfInBounds_toArray, List.set_cons_zero, List.set_cons_succ])
      refine wpAnyH_take (i := 8) (oi := ⟨some 71, _, _, _, _, _⟩) (v := ?_) rfl (by kernel_rfl) (by kernel_rfl) (by kernel_rfl) (fun _ _ _ h => h) (Or.inl ⟨by rfl, ?_⟩) (by assumption) ?_
      rotate_left
      · intro w hSw
        (try dsimp only at hSw)
        go_simp
        all_goals (try with_reducible rfl)
      (try simp only [Act.put, List.setIfInBounds_toArray, List.set_cons_zero, List.set_cons_succ])
      refine wpAnyH_take (i := 9) (oi := ⟨some 72, _, _, _, _, _⟩) (v := ?_) rfl (by kernel_rfl) (by kernel_rfl) (by kernel_rfl) (fun _ _ _ h => h) (Or.inl ⟨by rfl, ?_⟩) (by assumption) ?_
      rotate_left
      · intro w hSw
        (try dsimp only at hSw)
        go_simp
        all_goals (try with_reducible rfl)
      (try simp only [Act.put, List.setIfInBounds_toArray, List.set_cons_zero, List.set_cons_succ])
      refine wpAnyH_take (i := 10) (oi := ⟨some 73, _, _, _, _, _⟩) (v := ?_) rfl (by kernel_rfl) (by kernel_rfl) (by kernel_rfl) (fun _ _ _ h => h) (Or.inl ⟨by rfl, ?_⟩) (by assumption) ?_
      rotate_left
      · intro w hSw
        (try dsimp only at hSw)
        go_simp
        all_goals (try with_reducible rfl)
      (try simp only [Act.put, List.setIfInBounds_toArray, List.set_cons_zero, List.set_cons_succ])
      refine wpAnyH_ready (rs := [5]) (by kernel_rfl) (by simp) ?_
      refine AllReadyH.cons (o := ⟨some 68, _, _, _, _, _⟩) rfl (fun K hK => ?_) AllReadyH.nil
      go_simp
      refine (ref_sum_any (some ⟨g, 0, none⟩) 60 c0 (X5.take 60) _ (HC1.out _ HFBd.out)).mono ?_
      rintro en va ⟨rfl, hOe⟩
      have HSe := Lib.hid (HSd.out.keep hOe)
      have HFBe := Lib.hid (HFBd.out.keep0 hOe)
      clear HSd HFBd
      refine hK.out _ _ (hOe.cell hSw0 (by simp)) (fun hSn => ?_)
      clear hK K hSw0
      have hSw0 := hSn
      clear hSn hOe
      (try simp only [Act.put, List.setIfInBounds_toArray, List.set_cons_zero, List.set_cons_succ])
      refine wpAnyH_ready (rs := [11]) (by kernel_rfl) (by simp) ?_
      refine AllReadyH.cons (o := ⟨some 74, _, _, _, _, _⟩) rfl (fun K hK => ?_) AllReadyH.nil
      go_simp
      refine (ref_more_any (csum (X5.take 60)) A64 (64 * t) (c0 - 64) ((X5.drop 64).take (64 * t)) _ (csum_lt _) (HC2.out _ HFBe.out)).mono ?_
      rintro en vb ⟨rfl, hOf⟩
      rw [HSM.out]
      have HSf := Lib.hid (HSe.out.keep hOf)
      have HFBf := Lib.hid (HFBe.out.keep0 hOf)
      clear HSe HFBe
      refine hK.out _ _ (hOf.cell hSw0 (by simp)) (fun hSn => ?_)
      clear hK K hSw0
      have hSw0 := hSn
      clear hSn hOf
      (try simp only [Act.put, List.setIfInBounds_toArray, List.set_cons_zero, List.set_cons_succ])
      refine wpAnyH_take (i := 12) (oi := ⟨some 9, _, _, _, _, _⟩) (v := ?_) rfl (by kernel_rfl) (by kernel_rfl) (by kernel_rfl) (fun _ _ _ h => h) (Or.inl ⟨by rfl, ?_⟩) (by assumption) ?_
      rotate_left
      · intro w hSw
        (try dsimp only at hSw)
        go_simp
        all_goals (try with_reducible rfl)
      (try simp only [Act.put, List.setIfInBounds_toArray, List.set_cons_zero, List.set_cons_succ])
      refine wpAnyH_done (by kernel_rfl) ?_ _
      have hy0 := HSf.out.row.fk
      have hy1 := HSf.out.row.pz 1
      have hlp := HSf.out.row.lp
      clear hSw0 hs64 hc60
      go_upto_region 15 with fail
      have HS : Hid (Encs w (vb.setCell ⟨p, 1, none⟩ (.int .i64 (60 : Nat))) p g 60 b X5 [.int .i64 rm, .int .i64 rn, .int .i64 rp, .slice A na ca, .slice B t cb]) := Lib.hid (HSf.out.put (HSf.out.row.place 60 (by rw [HX5.out]; omega)) ((Only.refl [p, g] vb).set (by simp) _))
      rw [show ((60 : Nat) : Int) = 60 from rfl] at HS
      clear HSf HFBf hy0 hy1 hlp
      generalize vb.setCell ⟨p, 1, none⟩ (.int .i64 60) = vc at *
      go_wp2_with fail
      refine (ref_one_any p g 60 X5 4 (s : Int) _ (by exact HS.out.row) (by decide) (by rw [HX5.out]; omega) (by omega)).mono ?_
      rintro e vd ⟨rfl, hr, hO⟩
      rw [Int.toNat_natCast, HRS.out] at hr
      have HS2 : Hid (Encs w vd p g (60 + 4) b RB [.int .i64 rm, .int .i64 rn, .int .i64 rp, .slice A na ca, .slice B t cb]) := Lib.hid (HS.out.put hr hO)
      obtain ⟨A9, c9, hf9, hfb9, hfA9⟩ := row_bys hr
      obtain rfl := hfA9 (by rw [HRL.out]; omega)
      have hoR := hr.own (by rw [HRL.out]; omega)
      have HOR := Lib.hid hoR
      have hc9 := hfb9.le
      have hm9 := hfb9.cm
      have hggw := HS.out.hg
      clear hr hO HS hfb9 hfA9 hoR
      go_wp2
      go_ret3
      exact .inr ⟨RB, s, g, c9, HENC.out, rfl, hc9, hm9, hggw, HOR.out, HS2.out.only⟩
end Go.Proofs.YtgcfdjcpcclcjaaGreat
