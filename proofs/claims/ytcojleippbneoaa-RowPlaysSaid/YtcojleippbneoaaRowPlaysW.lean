/- The walk of RowPlays. -/
import Derived.Test.YtcojleippbneoaaRowD
import Derived.Test.YtcojleippbneoaaLaw1A
import Derived.Test.YtcojleippbneoaaFrame
import Derived.Deep.Slices
import Derived.Deep.RegionHeld3
import Derived.Deep.Fields
import Derived.ChangeSame
set_option linter.unusedVariables false
namespace Go.Proofs.Ytcojleippbneoaa.rowPlays
open Go Go.RowKit Go.Kn Go.ChangeShapes Go.WideShapes Go.ChangeAt

/-- an act in memory, in the five cells from ⟨a, o⟩ on -/
structure ActAt (w : World) (a o : Nat) (kind width n : Int) (A1 : Option Addr) (n1 c1 : Nat) (zs : List Int) (A2 : Option Addr) (n2 c2 : Nat) (bs : List UInt8) : Prop where
  h0 : w.cell? ⟨a, o, none⟩ = some (.int .i64 kind)
  h1 : w.cell? ⟨a, o + 1, none⟩ = some (.int .i64 width)
  h2 : w.cell? ⟨a, o + 2, none⟩ = some (.int .i64 n)
  h3 : w.cell? ⟨a, o + 3, none⟩ = some (.slice A1 n1 c1)
  h4 : w.cell? ⟨a, o + 4, none⟩ = some (.slice A2 n2 c2)
  hi : Ins w A1 n1 c1 zs
  hb : Bys w A2 n2 c2 bs

/-- a slice of acts that came in -/
def Acts (w : World) (A : Option Addr) (n c : Nat) : Prop := n ≤ c ∧ c ≤ maxLen ∧
  (0 < n → ∃ a o, A = some ⟨a, o, none⟩ ∧ ∀ j, j < n → ∃ kind width m A1 n1 c1 zs A2 n2 c2 bs, ActAt w a (o + j * 5) kind width m A1 n1 c1 zs A2 n2 c2 bs)

/-- the two rows, alike -/
def Two (w wr : World) (p g p' g' : Nat) (bs : List UInt8) (k : Nat) : Prop :=
  RowAt wr p g bs k ∧ RowAt wr p' g' bs k ∧ Only [] w wr ∧ w.heap.size ≤ p ∧ w.heap.size ≤ g ∧ w.heap.size ≤ p' ∧ w.heap.size ≤ g' ∧ p ≠ p' ∧ p ≠ g' ∧ g ≠ p' ∧ g ≠ g'

theorem Two.keep0 {w wr w' : World} {p g p' g' k : Nat} {bs : List UInt8} (h : Two w wr p g p' g' bs k) (hO : Only [] wr w') : Two w w' p g p' g' bs k :=
  ⟨h.1.keep0 hO, h.2.1.keep0 hO, h.2.2.1.trans' hO, h.2.2.2⟩

theorem Two.put {w wb w3 w4 : World} {p g p' g' k kn : Nat} {bs bsn : List UInt8} (h : Two w wb p g p' g' bs k) (h3 : Only [p, g] wb w3) (h4 : Only [p', g'] w3 w4) (r3 : RowAt w3 p g bsn kn) (r4 : RowAt w4 p' g' bsn kn) : Two w w4 p g p' g' bsn kn := by
  obtain ⟨_, _, hO, hp, hg, hp', hg', n1, n2, n3, n4⟩ := h
  refine ⟨r3.keep h4 (by simp [n1, n2]) (by simp [n3, n4]), r4, (hO.trans h3 (by simp; omega)).trans h4 (by simp; omega), hp, hg, hp', hg', n1, n2, n3, n4⟩
theorem made_bys {w w' : World} {A : Option Addr} {c : Nat} {bs : List UInt8} (hc : bs.length ≤ c) (hm : c ≤ maxLen) (hpos : 0 < bs.length → ∃ g, A = some ⟨g, 0, none⟩ ∧ w.heap.size ≤ g ∧ Own w' g (bvs bs)) : Bys w' A bs.length c bs := by
  rcases Nat.eq_zero_or_pos bs.length with h0 | h0
  · exact ⟨by simp, hc, hm, fun h => absurd h (by omega)⟩
  · obtain ⟨g, rfl, _, ho⟩ := hpos h0
    exact Row1.of_Own ho (by simp) hc hm

set_option maxRecDepth 100000 in
set_option maxHeartbeats 2000000 in
theorem walk_play (size : Int) (A : Option Addr) (n c : Nat) (w : World) (hacts : Acts w A n c) (hn : n ≤ 60) (hs0 : 0 ≤ size) (hs1 : size ≤ 65536) :
    Calls Try.prog 6 #[.int .i64 size, .slice A n c] w fun e w' => e = .returned (.bool true) ∧ Only [] w w' := by
  obtain ⟨hcl, hcm, hac⟩ := hacts
  unfold maxLen at hcm
  have HAC := Lib.hid hac
  clear hac
  go_enter Try.func6, Try.ntmps6
  go_wp2_with fail
  refine (new_any size _ hs0 hs1).mono ?_
  rintro e w1 ⟨p, g, rfl, hp, hg, hr1, hO1⟩
  have HO1 := Lib.hid hO1
  have HR1 := Lib.hid hr1
  clear hO1 hr1
  go_wp2_with fail
  refine (ref_new_any size _ hs0 hs1).mono ?_
  rintro e w2 ⟨p', g', rfl, hp', hg', hr2, hO2⟩
  have hlp := HR1.out.lp
  have hlg := HR1.out.lg
  have hsz1 := HO1.out.size
  have HT : Hid (Two w w2 p g p' g' (List.replicate size.toNat 0) 0) := Lib.hid ⟨HR1.out.keep0 hO2, hr2, HO1.out.trans' hO2, hp, hg, by omega, by omega, by omega, by omega, by omega, by omega⟩
  clear hO2 hr2 HO1 HR1 hp hg hp' hg' hlp hlg hsz1
  generalize List.replicate size.toNat (0 : UInt8) = bs0 at *
  go_wp2_with fail
  go_loopg [5, 6, 7, 8] n (fun r vr vm vi vb wr => ∃ (j p g p' g' k : Nat) (bs : List UInt8), j + r = n ∧ vi = .int .i64 j ∧ vr = .pointer (some ⟨p, 0, none⟩) ∧ vm = .pointer (some ⟨p', 0, none⟩) ∧ Two w wr p g p' g' bs k)
  case atStart => exact ⟨0, p, g, p', g', 0, bs0, by omega, rfl, rfl, rfl, HT.out⟩
  clear HT
  obtain ⟨j, p, g, p', g', k, bs, hj, rfl, rfl, rfl, hT⟩ := hrel
  have HT := Lib.hid hT
  clear hT
  by_cases hlt : j < n
  · obtain ⟨a, o, rfl, hAt⟩ := HAC.out (by omega)
    obtain ⟨kind, width, m, A1, n1, c1, zs, A2, n2, c2, xs, hact⟩ := hAt j hlt
    have hO := HT.out.2.2.1
    have h0 := hO.cell hact.h0 (by simp)
    have h1 := hO.cell hact.h1 (by simp)
    have h2 := hO.cell hact.h2 (by simp)
    have h3 := hO.cell hact.h3 (by simp)
    have h4 := hO.cell hact.h4 (by simp)
    have HI := Lib.hid (hact.hi.keep0 hO)
    have HB := Lib.hid (hact.hb.keep0 hO)
    have HACT := Lib.hid hact
    clear hAt hact hO
    by_cases hbig : n1 ≤ 100 ∧ n2 ≤ 200
    · obtain ⟨hb1, hb2⟩ := hbig
      have hd1 : decide (100 < (n1 : Int)) = false := by simp; omega
      have hlp := HT.out.1.lp
      have hlg := HT.out.1.lg
      have hlp' := HT.out.2.1.lp
      have hlg' := HT.out.2.1.lg
      obtain ⟨hp, hg, hp', hg', hne1, hne2, hne3, hne4⟩ := HT.out.2.2.2
      have hsep1 : 0 < n1 → ∀ a, A1 = some a → a.block < w.heap.size := fun h0 => HACT.out.hi.block_lt h0
      have hsep2 : 0 < n2 → ∀ a, A2 = some a → a.block < w.heap.size := fun h0 => HACT.out.hb.block_lt h0
      have HS1 : Hid (0 < n1 → ∀ a, A1 = some a → a.block ≠ p ∧ a.block ≠ g) := Lib.hid fun h a ha => by have := hsep1 h a ha; exact ⟨by omega, by omega⟩
      have HS2 : Hid (0 < n1 → ∀ a, A1 = some a → a.block ≠ p' ∧ a.block ≠ g') := Lib.hid fun h a ha => by have := hsep1 h a ha; exact ⟨by omega, by omega⟩
      have HS3 : Hid (0 < n1 → ∀ a, A1 = some a → a.block ∉ [p, g]) := Lib.hid fun h a ha => by have := hsep1 h a ha; simp; omega
      have HS4 : Hid (0 < n2 → ∀ a, A2 = some a → a.block ∉ [p, g]) := Lib.hid fun h a ha => by have := hsep2 h a ha; simp; omega
      clear hsep1 hsep2
      by_cases hk1 : kind = 1
      · subst hk1
        go_wp2_with fail
        generalize hwb : wr.alloc (.cells #[Value.int IntKind.i64 1, Value.int IntKind.i64 width, Value.int IntKind.i64 m, Value.slice A1 n1 c1, Value.slice A2 n2 c2] 41) = wb
        have hOb : Only [] wr wb := by rw [← hwb]; exact (Only.refl _ _).alloc _
        have hx1 : wb.cell? ⟨wr.heap.size, 1, none⟩ = some (.int .i64 width) := by rw [← hwb]; simp
        have hx2 : wb.cell? ⟨wr.heap.size, 2, none⟩ = some (.int .i64 m) := by rw [← hwb]; simp
        have hx3 : wb.cell? ⟨wr.heap.size, 3, none⟩ = some (.slice A1 n1 c1) := by rw [← hwb]; simp
        have hx4 : wb.cell? ⟨wr.heap.size, 4, none⟩ = some (.slice A2 n2 c2) := by rw [← hwb]; simp
        have HOB := Lib.hid hOb
        have hTb : Two w wb p g p' g' bs k := HT.out.keep0 hOb
        have HTB := Lib.hid hTb
        have HIB := Lib.hid (HI.out.keep0 hOb)
        have HBB := Lib.hid (HB.out.keep0 hOb)
        clear hwb hOb hTb h0 h1 h2 h3 h4
        go_region_held3 (fun w' => w'.cell? ⟨wr.heap.size, 1, none⟩ = some (.int .i64 width) ∧ w'.cell? ⟨wr.heap.size, 3, none⟩ = some (.slice A1 n1 c1)) (first | exact ⟨hx1, hx3⟩ | exact ⟨hx1b, hx3b⟩ | exact ⟨hx1c, hx3c⟩)
          (first
          | (go_at_call 22; refine (put_all p g k bs width A1 n1 c1 zs _ (by exact HTB.out.1.drew) (by exact HIB.out.drew) (by exact HS1.out)).mono ?_; rintro e w3 ⟨rfl, hr3, hO3⟩
             obtain ⟨hx1b, hx3b⟩ : w3.cell? ⟨wr.heap.size, 1, none⟩ = some (.int .i64 width) ∧ w3.cell? ⟨wr.heap.size, 3, none⟩ = some (.slice A1 n1 c1) := ⟨hO3.cell hx1 (by simp; omega), hO3.cell hx3 (by simp; omega)⟩
             have HR3 := Lib.hid hr3
             have HO3 : Hid (Only [p, g] wb w3) := Lib.hid (((Only.refl [p, g] wb).drew).trans' hO3)
             have HRP := Lib.hid (HTB.out.2.1.keep HO3.out (by simp; omega) (by simp; omega))
             have HI3 := Lib.hid (HIB.out.keepP HO3.out HS3.out)
             clear hr3 hO3)
          | (go_at_call 29; refine (ref_put_all p' g' k bs width A1 n1 c1 zs _ (by exact HRP.out) (by exact HI3.out) (by exact HS2.out)).mono ?_; rintro e w4 ⟨rfl, hr4, hO4⟩
             obtain ⟨hx1c, hx3c⟩ : w4.cell? ⟨wr.heap.size, 1, none⟩ = some (.int .i64 width) ∧ w4.cell? ⟨wr.heap.size, 3, none⟩ = some (.slice A1 n1 c1) := ⟨hO4.cell hx1b (by simp; omega), hO4.cell hx3b (by simp; omega)⟩
             have HR4 := Lib.hid hr4
             have HO4 := Lib.hid hO4
             clear hr4 hO4))
        have HTC : Hid (Two w w4 p g p' g' (putB bs k width zs) (putK bs k width zs)) := Lib.hid (HTB.out.put HO3.out HO4.out HR3.out HR4.out)
        generalize putB bs k width zs = bsn at *
        generalize putK bs k width zs = kn at *
        have hdne : (putOk bs k width zs != putOk bs k width zs) = false := by simp
        clear hx1 hx3 hx1b hx3b hx1c hx3c hx2 hx4 HR3 HO3 HR4 HO4 HRP HI3
        go_wp2_with fail
        obtain ⟨Ac, cc, hf0, hfb, _⟩ := row_bys HTC.out.2.1
        have hf1 := HTC.out.2.1.fk
        have hcle := HTC.out.2.1.le
        have hcmx := HTC.out.2.1.mx
        have hq1 : (((bsn.length - kn : Nat) : Int) != ((bsn.length : Int) - (kn : Int))) = false := by
          have : ((bsn.length - kn : Nat) : Int) = (bsn.length : Int) - (kn : Int) := by omega
          rw [this]; simp
        have hwq := IntWalk.i64_in ((bsn.length : Int) - (kn : Int)) (by omega)
        have hccm := hfb.cm
        unfold maxLen at hccm
        have HFB := Lib.hid hfb
        clear hfb
        go_wp2_with fail
        go_region_held3 (fun w' => w'.cell? ⟨p', 0, none⟩ = some (.slice Ac bsn.length cc) ∧ w'.cell? ⟨p', 1, none⟩ = some (.int .i64 (kn : Int))) (first | exact ⟨hf0, hf1⟩ | exact ⟨hf0b, hf1b⟩)
          (first
          | (go_at_call 25; refine (left_any p g kn bsn _ (by exact HTC.out.1.drew)).mono ?_; rintro e w' ⟨rfl, nl, rfl⟩)
          | (go_at_call 24; refine (bytes_any p g kn bsn _ (by first | exact HTC.out.1.drewN _ | exact (HTC.out.1.drew).drewN _)).mono ?_; rintro e w7 ⟨A7, c7, rfl, hc7, hm7, hpos7, hO7⟩
             obtain ⟨hf0b, hf1b⟩ : w7.cell? ⟨p', 0, none⟩ = some (.slice Ac bsn.length cc) ∧ w7.cell? ⟨p', 1, none⟩ = some (.int .i64 (kn : Int)) := ⟨hO7.cell hf0 (by simp), hO7.cell hf1 (by simp)⟩
             have HO7 := Lib.hid (only_of_drawn hO7)
             have HPOS7 := Lib.hid (And.intro hc7 (And.intro hm7 hpos7))
             clear hO7 hc7 hm7 hpos7)
          | (go_at_call 34; refine (alike_bytes_any A7 bsn.length c7 bsn Ac bsn.length cc bsn _ (by exact made_bys HPOS7.out.1 HPOS7.out.2.1 HPOS7.out.2.2) (by exact HFB.out.keep0 HO7.out)).mono ?_; rintro e w8 ⟨rfl, n8, rfl⟩))
        have hd8 : decide (bsn = bsn) = true := by simp
        go_wp2
        go_roundg (gk - 1)
        case measure => omega
        case rel => exact ⟨j + 1, p, g, p', g', kn, bsn, by omega, by go_num, rfl, rfl, (HTC.out.keep0 HO7.out).keep0 ((Only.refl _ _).drewN _)⟩
      · by_cases hk2 : kind = 2
        · subst hk2
          go_wp2_with fail
          generalize hwb : wr.alloc (.cells #[Value.int IntKind.i64 2, Value.int IntKind.i64 width, Value.int IntKind.i64 m, Value.slice A1 n1 c1, Value.slice A2 n2 c2] 41) = wb
          have hOb : Only [] wr wb := by rw [← hwb]; exact (Only.refl _ _).alloc _
          have hx1 : wb.cell? ⟨wr.heap.size, 1, none⟩ = some (.int .i64 width) := by rw [← hwb]; simp
          have hx2 : wb.cell? ⟨wr.heap.size, 2, none⟩ = some (.int .i64 m) := by rw [← hwb]; simp
          have hx3 : wb.cell? ⟨wr.heap.size, 3, none⟩ = some (.slice A1 n1 c1) := by rw [← hwb]; simp
          have hx4 : wb.cell? ⟨wr.heap.size, 4, none⟩ = some (.slice A2 n2 c2) := by rw [← hwb]; simp
          have HOB := Lib.hid hOb
          have hTb : Two w wb p g p' g' bs k := HT.out.keep0 hOb
          have HTB := Lib.hid hTb
          have HIB := Lib.hid (HI.out.keep0 hOb)
          have HBB := Lib.hid (HB.out.keep0 hOb)
          clear hwb hOb hTb h0 h1 h2 h3 h4
          go_region_held3 (fun w' => w'.cell? ⟨wr.heap.size, 4, none⟩ = some (.slice A2 n2 c2)) (first | exact hx4 | exact hx4b | exact hx4c)
            (first
            | (go_at_call 27; refine (lay_alls p g k bs A2 n2 c2 xs _ (by exact HTB.out.1.drew) (by exact HBB.out.drew)).mono ?_; rintro e w3 ⟨rfl, hr3, hO3⟩
               have hx4b : w3.cell? ⟨wr.heap.size, 4, none⟩ = some (.slice A2 n2 c2) := hO3.cell hx4 (by simp; omega)
               have HR3 := Lib.hid hr3
               have HO3 : Hid (Only [p, g] wb w3) := Lib.hid (((Only.refl [p, g] wb).drew).trans' hO3)
               have HRP := Lib.hid (HTB.out.2.1.keep HO3.out (by simp; omega) (by simp; omega))
               have HI3 := Lib.hid (HBB.out.keepP HO3.out HS4.out)
               clear hr3 hO3)
            | (go_at_call 30; refine (ref_lay_alls p' g' k bs A2 n2 c2 xs _ (by exact HRP.out) (by exact HI3.out)).mono ?_; rintro e w4 ⟨rfl, hr4, hO4⟩
               have hx4c : w4.cell? ⟨wr.heap.size, 4, none⟩ = some (.slice A2 n2 c2) := hO4.cell hx4b (by simp; omega)
               have HR4 := Lib.hid hr4
               have HO4 := Lib.hid hO4
               clear hr4 hO4))
          have HTC : Hid (Two w w4 p g p' g' (layB bs k xs) (layK bs k xs)) := Lib.hid (HTB.out.put HO3.out HO4.out HR3.out HR4.out)
          generalize layB bs k xs = bsn at *
          generalize layK bs k xs = kn at *
          have hdne : (layOk bs k xs != layOk bs k xs) = false := by simp
          clear hx1 hx3 hx2 hx4 hx4b hx4c HR3 HO3 HR4 HO4 HRP HI3
          go_wp2_with fail
          obtain ⟨Ac, cc, hf0, hfb, _⟩ := row_bys HTC.out.2.1
          have hf1 := HTC.out.2.1.fk
          have hcle := HTC.out.2.1.le
          have hcmx := HTC.out.2.1.mx
          have hq1 : (((bsn.length - kn : Nat) : Int) != ((bsn.length : Int) - (kn : Int))) = false := by
            have : ((bsn.length - kn : Nat) : Int) = (bsn.length : Int) - (kn : Int) := by omega
            rw [this]; simp
          have hwq := IntWalk.i64_in ((bsn.length : Int) - (kn : Int)) (by omega)
          have hccm := hfb.cm
          unfold maxLen at hccm
          have HFB := Lib.hid hfb
          clear hfb
          go_wp2_with fail
          go_region_held3 (fun w' => w'.cell? ⟨p', 0, none⟩ = some (.slice Ac bsn.length cc) ∧ w'.cell? ⟨p', 1, none⟩ = some (.int .i64 (kn : Int))) (first | exact ⟨hf0, hf1⟩ | exact ⟨hf0b, hf1b⟩)
            (first
            | (go_at_call 25; refine (left_any p g kn bsn _ (by exact HTC.out.1.drew)).mono ?_; rintro e w' ⟨rfl, nl, rfl⟩)
            | (go_at_call 24; refine (bytes_any p g kn bsn _ (by first | exact HTC.out.1.drewN _ | exact (HTC.out.1.drew).drewN _)).mono ?_; rintro e w7 ⟨A7, c7, rfl, hc7, hm7, hpos7, hO7⟩
               obtain ⟨hf0b, hf1b⟩ : w7.cell? ⟨p', 0, none⟩ = some (.slice Ac bsn.length cc) ∧ w7.cell? ⟨p', 1, none⟩ = some (.int .i64 (kn : Int)) := ⟨hO7.cell hf0 (by simp), hO7.cell hf1 (by simp)⟩
               have HO7 := Lib.hid (only_of_drawn hO7)
               have HPOS7 := Lib.hid (And.intro hc7 (And.intro hm7 hpos7))
               clear hO7 hc7 hm7 hpos7)
            | (go_at_call 34; refine (alike_bytes_any A7 bsn.length c7 bsn Ac bsn.length cc bsn _ (by exact made_bys HPOS7.out.1 HPOS7.out.2.1 HPOS7.out.2.2) (by exact HFB.out.keep0 HO7.out)).mono ?_; rintro e w8 ⟨rfl, n8, rfl⟩))
          have hd8 : decide (bsn = bsn) = true := by simp
          go_wp2
          go_roundg (gk - 1)
          case measure => omega
          case rel => exact ⟨j + 1, p, g, p', g', kn, bsn, by omega, by go_num, rfl, rfl, (HTC.out.keep0 HO7.out).keep0 ((Only.refl _ _).drewN _)⟩
        · by_cases hk3 : kind = 3
          · subst hk3
            go_wp2_with fail
            generalize hwb : wr.alloc (.cells #[Value.int IntKind.i64 3, Value.int IntKind.i64 width, Value.int IntKind.i64 m, Value.slice A1 n1 c1, Value.slice A2 n2 c2] 41) = wb
            have hOb : Only [] wr wb := by rw [← hwb]; exact (Only.refl _ _).alloc _
            have hx1 : wb.cell? ⟨wr.heap.size, 1, none⟩ = some (.int .i64 width) := by rw [← hwb]; simp
            have hx2 : wb.cell? ⟨wr.heap.size, 2, none⟩ = some (.int .i64 m) := by rw [← hwb]; simp
            have hx3 : wb.cell? ⟨wr.heap.size, 3, none⟩ = some (.slice A1 n1 c1) := by rw [← hwb]; simp
            have hx4 : wb.cell? ⟨wr.heap.size, 4, none⟩ = some (.slice A2 n2 c2) := by rw [← hwb]; simp
            have HOB := Lib.hid hOb
            have hTb : Two w wb p g p' g' bs k := HT.out.keep0 hOb
            have HTB := Lib.hid hTb
            have HIB := Lib.hid (HI.out.keep0 hOb)
            have HBB := Lib.hid (HB.out.keep0 hOb)
            clear hwb hOb hTb h0 h1 h2 h3 h4
            refine (get_all p g k bs width _ (by exact HTB.out.1)).mono ?_
            rintro e w3 ⟨rfl, hr3, hO3⟩
            have hx1b := hO3.cell hx1 (by simp; omega)
            have HR3 := Lib.hid hr3
            have HO3 := Lib.hid (hO3.mono (T := [p, g]) (by simp))
            have HRP := Lib.hid (HTB.out.2.1.keep hO3 (by simp; omega) (by simp; omega))
            clear hr3 hO3 hx1 hx2 hx3 hx4
            go_wp2_with fail
            refine (ref_get_all p' g' k bs width _ (by exact HRP.out)).mono ?_
            rintro e w4 ⟨rfl, hr4, hO4⟩
            have HO4 := Lib.hid (hO4.mono (T := [p', g']) (by simp))
            have HTC : Hid (Two w w4 p g p' g' bs (getK bs k width)) := Lib.hid (HTB.out.put HO3.out HO4.out HR3.out hr4)
            generalize getK bs k width = kn at *
            have hdne : (getOk bs k width != getOk bs k width) = false := by simp
            have hdnn : ((getN bs k width : Int) != (getN bs k width : Int)) = false := by simp
            clear hr4 hO4 hx1b HR3 HO3 HO4 HRP
            generalize getN bs k width = gn at *
            generalize getOk bs k width = gb at *
            go_wp2_with fail
            obtain ⟨Ac, cc, hf0, hfb, _⟩ := row_bys HTC.out.2.1
            have hf1 := HTC.out.2.1.fk
            have hcle := HTC.out.2.1.le
            have hcmx := HTC.out.2.1.mx
            have hq1 : (((bs.length - kn : Nat) : Int) != ((bs.length : Int) - (kn : Int))) = false := by
              have : ((bs.length - kn : Nat) : Int) = (bs.length : Int) - (kn : Int) := by omega
              rw [this]; simp
            have hwq := IntWalk.i64_in ((bs.length : Int) - (kn : Int)) (by omega)
            have hccm := hfb.cm
            unfold maxLen at hccm
            have HFB := Lib.hid hfb
            clear hfb
            go_wp2_with fail
            go_region_held3 (fun w' => w'.cell? ⟨p', 0, none⟩ = some (.slice Ac bs.length cc) ∧ w'.cell? ⟨p', 1, none⟩ = some (.int .i64 (kn : Int))) (first | exact ⟨hf0, hf1⟩ | exact ⟨hf0b, hf1b⟩)
              (first
              | (go_at_call 25; refine (left_any p g kn bs _ (by exact HTC.out.1.drew)).mono ?_; rintro e w' ⟨rfl, nl, rfl⟩)
              | (go_at_call 24; refine (bytes_any p g kn bs _ (by first | exact HTC.out.1.drewN _ | exact (HTC.out.1.drew).drewN _)).mono ?_; rintro e w7 ⟨A7, c7, rfl, hc7, hm7, hpos7, hO7⟩
                 obtain ⟨hf0b, hf1b⟩ : w7.cell? ⟨p', 0, none⟩ = some (.slice Ac bs.length cc) ∧ w7.cell? ⟨p', 1, none⟩ = some (.int .i64 (kn : Int)) := ⟨hO7.cell hf0 (by simp), hO7.cell hf1 (by simp)⟩
                 have HO7 := Lib.hid (only_of_drawn hO7)
                 have HPOS7 := Lib.hid (And.intro hc7 (And.intro hm7 hpos7))
                 clear hO7 hc7 hm7 hpos7)
              | (go_at_call 34; refine (alike_bytes_any A7 bs.length c7 bs Ac bs.length cc bs _ (by exact made_bys HPOS7.out.1 HPOS7.out.2.1 HPOS7.out.2.2) (by exact HFB.out.keep0 HO7.out)).mono ?_; rintro e w8 ⟨rfl, n8, rfl⟩))
            have hd8 : decide (bs = bs) = true := by simp
            go_wp2
            go_roundg (gk - 1)
            case measure => omega
            case rel => exact ⟨j + 1, p, g, p', g', kn, bs, by omega, by go_num, rfl, rfl, (HTC.out.keep0 HO7.out).keep0 ((Only.refl _ _).drewN _)⟩
          · by_cases hk4 : kind = 4
            · subst hk4
              go_wp2_with fail
              generalize hwb : wr.alloc (.cells #[Value.int IntKind.i64 4, Value.int IntKind.i64 width, Value.int IntKind.i64 m, Value.slice A1 n1 c1, Value.slice A2 n2 c2] 41) = wb
              have hOb : Only [] wr wb := by rw [← hwb]; exact (Only.refl _ _).alloc _
              have hx1 : wb.cell? ⟨wr.heap.size, 1, none⟩ = some (.int .i64 width) := by rw [← hwb]; simp
              have hx2 : wb.cell? ⟨wr.heap.size, 2, none⟩ = some (.int .i64 m) := by rw [← hwb]; simp
              have hx3 : wb.cell? ⟨wr.heap.size, 3, none⟩ = some (.slice A1 n1 c1) := by rw [← hwb]; simp
              have hx4 : wb.cell? ⟨wr.heap.size, 4, none⟩ = some (.slice A2 n2 c2) := by rw [← hwb]; simp
              have HOB := Lib.hid hOb
              have hTb : Two w wb p g p' g' bs k := HT.out.keep0 hOb
              have HTB := Lib.hid hTb
              have HIB := Lib.hid (HI.out.keep0 hOb)
              have HBB := Lib.hid (HB.out.keep0 hOb)
              clear hwb hOb hTb h0 h1 h2 h3 h4
              refine (take_all p g k bs m _ (by exact HTB.out.1)).mono ?_
              rintro e w3 ⟨A3, c3, rfl, hb3, hf3, hr3, hO3⟩
              have hx2b := hO3.cell hx2 (by simp; omega)
              have HR3 := Lib.hid hr3
              have HB3 := Lib.hid hb3
              have hO3' := hO3.mono (T := [p, g]) (by simp)
              have HO3 := Lib.hid hO3'
              have HRP := Lib.hid (HTB.out.2.1.keep hO3 (by simp; omega) (by simp; omega))
              have hszb := HOB.out.size
              have HF3 := Lib.hid (show 0 < (takeB bs k m).length → ∀ a, A3 = some a → a.block ∉ [p'] from fun h a ha => by have := hf3 h a ha; simp; omega)
              clear hr3 hO3 hO3' hx1 hx2 hx3 hx4 hb3 hf3
              go_wp2_with fail
              refine (ref_take_all p' g' k bs m _ (by exact HRP.out)).mono ?_
              rintro e w4 ⟨A4, c4, rfl, hb4, _, hr4, hO4⟩
              have HO4 := Lib.hid (hO4.mono (T := [p', g']) (by simp))
              have HTC' : Hid (Two w w4 p g p' g' bs (takeK bs k m)) := Lib.hid (HTB.out.put HO3.out HO4.out HR3.out hr4)
              have HB3' := Lib.hid (HB3.out.keepP hO4 HF3.out)
              have HB4 := Lib.hid hb4
              generalize takeK bs k m = kn at *
              have hdne : (takeOk bs k m != takeOk bs k m) = false := by simp
              clear hr4 hO4 HR3 HO3 HO4 HRP hx2b HF3 HB3 hb4
              generalize takeB bs k m = tb at *
              generalize takeOk bs k m = gb at *
              go_wp2_with fail
              refine (alike_bytes_any A3 tb.length c3 tb A4 tb.length c4 tb _ (by exact HB3'.out) (by exact HB4.out)).mono ?_
              rintro e w5 ⟨rfl, n5, rfl⟩
              have hdt : decide (tb = tb) = true := by simp
              have HTC := Lib.hid (HTC'.out.keep0 ((Only.refl _ _).drewN n5))
              clear HTC' HB3' HB4
              generalize w4.drewN n5 = w6 at *
              go_wp2_with fail
              obtain ⟨Ac, cc, hf0, hfb, _⟩ := row_bys HTC.out.2.1
              have hf1 := HTC.out.2.1.fk
              have hcle := HTC.out.2.1.le
              have hcmx := HTC.out.2.1.mx
              have hq1 : (((bs.length - kn : Nat) : Int) != ((bs.length : Int) - (kn : Int))) = false := by
                have : ((bs.length - kn : Nat) : Int) = (bs.length : Int) - (kn : Int) := by omega
                rw [this]; simp
              have hwq := IntWalk.i64_in ((bs.length : Int) - (kn : Int)) (by omega)
              have hccm := hfb.cm
              unfold maxLen at hccm
              have HFB := Lib.hid hfb
              clear hfb
              go_wp2_with fail
              go_region_held3 (fun w' => w'.cell? ⟨p', 0, none⟩ = some (.slice Ac bs.length cc) ∧ w'.cell? ⟨p', 1, none⟩ = some (.int .i64 (kn : Int))) (first | exact ⟨hf0, hf1⟩ | exact ⟨hf0b, hf1b⟩)
                (first
                | (go_at_call 25; refine (left_any p g kn bs _ (by exact HTC.out.1.drew)).mono ?_; rintro e w' ⟨rfl, nl, rfl⟩)
                | (go_at_call 24; refine (bytes_any p g kn bs _ (by first | exact HTC.out.1.drewN _ | exact (HTC.out.1.drew).drewN _)).mono ?_; rintro e w7 ⟨A7, c7, rfl, hc7, hm7, hpos7, hO7⟩
                   obtain ⟨hf0b, hf1b⟩ : w7.cell? ⟨p', 0, none⟩ = some (.slice Ac bs.length cc) ∧ w7.cell? ⟨p', 1, none⟩ = some (.int .i64 (kn : Int)) := ⟨hO7.cell hf0 (by simp), hO7.cell hf1 (by simp)⟩
                   have HO7 := Lib.hid (only_of_drawn hO7)
                   have HPOS7 := Lib.hid (And.intro hc7 (And.intro hm7 hpos7))
                   clear hO7 hc7 hm7 hpos7)
                | (go_at_call 34; refine (alike_bytes_any A7 bs.length c7 bs Ac bs.length cc bs _ (by exact made_bys HPOS7.out.1 HPOS7.out.2.1 HPOS7.out.2.2) (by exact HFB.out.keep0 HO7.out)).mono ?_; rintro e w8 ⟨rfl, n8, rfl⟩))
              have hd8 : decide (bs = bs) = true := by simp
              go_wp2
              go_roundg (gk - 1)
              case measure => omega
              case rel => exact ⟨j + 1, p, g, p', g', kn, bs, by omega, by go_num, rfl, rfl, (HTC.out.keep0 HO7.out).keep0 ((Only.refl _ _).drewN _)⟩
            · by_cases hk5 : kind = 5
              · subst hk5
                go_wp2_with fail
                generalize hwb : wr.alloc (.cells #[Value.int IntKind.i64 5, Value.int IntKind.i64 width, Value.int IntKind.i64 m, Value.slice A1 n1 c1, Value.slice A2 n2 c2] 41) = wb
                have hOb : Only [] wr wb := by rw [← hwb]; exact (Only.refl _ _).alloc _
                have hx1 : wb.cell? ⟨wr.heap.size, 1, none⟩ = some (.int .i64 width) := by rw [← hwb]; simp
                have hx2 : wb.cell? ⟨wr.heap.size, 2, none⟩ = some (.int .i64 m) := by rw [← hwb]; simp
                have hx3 : wb.cell? ⟨wr.heap.size, 3, none⟩ = some (.slice A1 n1 c1) := by rw [← hwb]; simp
                have hx4 : wb.cell? ⟨wr.heap.size, 4, none⟩ = some (.slice A2 n2 c2) := by rw [← hwb]; simp
                have HOB := Lib.hid hOb
                have hTb : Two w wb p g p' g' bs k := HT.out.keep0 hOb
                have HTB := Lib.hid hTb
                have HIB := Lib.hid (HI.out.keep0 hOb)
                have HBB := Lib.hid (HB.out.keep0 hOb)
                clear hwb hOb hTb h0 h1 h2 h3 h4
                refine (from_any A2 n2 c2 xs _ (by exact HBB.out) (by omega)).mono ?_
                rintro e w3 ⟨pn, gn, rfl, hpn, hgn, hr3, hO3⟩
                have hx4b := hO3.cell hx4 (by simp)
                have HR3 := Lib.hid hr3
                have HO3 := Lib.hid hO3
                have HB3 := Lib.hid (HBB.out.keep0 hO3)
                clear hr3 hO3 hx1 hx2 hx3 hx4
                go_wp2_with fail
                refine (ref_from_any A2 n2 c2 xs _ (by exact HB3.out) (by omega)).mono ?_
                rintro e w4 ⟨pm, gm, rfl, hpm, hgm, hr4, hO4⟩
                have hl3 := HR3.out.lp
                have hg3 := HR3.out.lg
                have hsz3 := HO3.out.size
                have hszb := HOB.out.size
                have hszr := HT.out.2.2.1.size
                have HTC : Hid (Two w w4 pn gn pm gm xs 0) := Lib.hid ⟨HR3.out.keep0 hO4, hr4, (HTB.out.2.2.1.trans' HO3.out).trans' hO4, by omega, by omega, by omega, by omega, by omega, by omega, by omega, by omega⟩
                obtain ⟨kn, hkn⟩ : ∃ kn, kn = 0 := ⟨0, rfl⟩
                rw [← hkn] at HTC
                clear hr4 hO4 HR3 HO3 hx4b hl3 hg3 hpn hgn hpm hgm hkn
                go_wp2_with fail
                obtain ⟨Ac, cc, hf0, hfb, _⟩ := row_bys HTC.out.2.1
                have hf1 := HTC.out.2.1.fk
                have hcle := HTC.out.2.1.le
                have hcmx := HTC.out.2.1.mx
                have hq1 : (((xs.length - kn : Nat) : Int) != ((xs.length : Int) - (kn : Int))) = false := by
                  have : ((xs.length - kn : Nat) : Int) = (xs.length : Int) - (kn : Int) := by omega
                  rw [this]; simp
                have hwq := IntWalk.i64_in ((xs.length : Int) - (kn : Int)) (by omega)
                have hccm := hfb.cm
                unfold maxLen at hccm
                have HFB := Lib.hid hfb
                clear hfb
                go_wp2_with fail
                go_region_held3 (fun w' => w'.cell? ⟨pm, 0, none⟩ = some (.slice Ac xs.length cc) ∧ w'.cell? ⟨pm, 1, none⟩ = some (.int .i64 (kn : Int))) (first | exact ⟨hf0, hf1⟩ | exact ⟨hf0b, hf1b⟩)
                  (first
                  | (go_at_call 25; refine (left_any pn gn kn xs _ (by exact HTC.out.1.drew)).mono ?_; rintro e w' ⟨rfl, nl, rfl⟩)
                  | (go_at_call 24; refine (bytes_any pn gn kn xs _ (by first | exact HTC.out.1.drewN _ | exact (HTC.out.1.drew).drewN _)).mono ?_; rintro e w7 ⟨A7, c7, rfl, hc7, hm7, hpos7, hO7⟩
                     obtain ⟨hf0b, hf1b⟩ : w7.cell? ⟨pm, 0, none⟩ = some (.slice Ac xs.length cc) ∧ w7.cell? ⟨pm, 1, none⟩ = some (.int .i64 (kn : Int)) := ⟨hO7.cell hf0 (by simp), hO7.cell hf1 (by simp)⟩
                     have HO7 := Lib.hid (only_of_drawn hO7)
                     have HPOS7 := Lib.hid (And.intro hc7 (And.intro hm7 hpos7))
                     clear hO7 hc7 hm7 hpos7)
                  | (go_at_call 34; refine (alike_bytes_any A7 xs.length c7 xs Ac xs.length cc xs _ (by exact made_bys HPOS7.out.1 HPOS7.out.2.1 HPOS7.out.2.2) (by exact HFB.out.keep0 HO7.out)).mono ?_; rintro e w8 ⟨rfl, n8, rfl⟩))
                have hd8 : decide (xs = xs) = true := by simp
                go_wp2
                go_roundg (gk - 1)
                case measure => omega
                case rel => exact ⟨j + 1, pn, gn, pm, gm, kn, xs, by omega, by go_num, rfl, rfl, (HTC.out.keep0 HO7.out).keep0 ((Only.refl _ _).drewN _)⟩
              · have e1 : (kind == 1) = false := by simpa using hk1
                have e2 : (kind == 2) = false := by simpa using hk2
                have e3 : (kind == 3) = false := by simpa using hk3
                have e4 : (kind == 4) = false := by simpa using hk4
                have e5 : (kind == 5) = false := by simpa using hk5
                clear hk1 hk2 hk3 hk4 hk5
                go_wp2_with fail
                generalize hwb : wr.alloc (.cells #[Value.int IntKind.i64 kind, Value.int IntKind.i64 width, Value.int IntKind.i64 m, Value.slice A1 n1 c1, Value.slice A2 n2 c2] 41) = wb
                have hOb : Only [] wr wb := by rw [← hwb]; exact (Only.refl _ _).alloc _
                have HTC := Lib.hid (HT.out.keep0 hOb)
                clear hwb hOb h0 h1 h2 h3 h4
                obtain ⟨Ac, cc, hf0, hfb, _⟩ := row_bys HTC.out.2.1
                have hf1 := HTC.out.2.1.fk
                have hcle := HTC.out.2.1.le
                have hcmx := HTC.out.2.1.mx
                have hq1 : (((bs.length - k : Nat) : Int) != ((bs.length : Int) - (k : Int))) = false := by
                  have : ((bs.length - k : Nat) : Int) = (bs.length : Int) - (k : Int) := by omega
                  rw [this]; simp
                have hwq := IntWalk.i64_in ((bs.length : Int) - (k : Int)) (by omega)
                have hccm := hfb.cm
                unfold maxLen at hccm
                have HFB := Lib.hid hfb
                clear hfb
                go_wp2_with fail
                go_region_held3 (fun w' => w'.cell? ⟨p', 0, none⟩ = some (.slice Ac bs.length cc) ∧ w'.cell? ⟨p', 1, none⟩ = some (.int .i64 (k : Int))) (first | exact ⟨hf0, hf1⟩ | exact ⟨hf0b, hf1b⟩)
                  (first
                  | (go_at_call 25; refine (left_any p g k bs _ (by exact HTC.out.1.drew)).mono ?_; rintro e w' ⟨rfl, nl, rfl⟩)
                  | (go_at_call 24; refine (bytes_any p g k bs _ (by first | exact HTC.out.1.drewN _ | exact (HTC.out.1.drew).drewN _)).mono ?_; rintro e w7 ⟨A7, c7, rfl, hc7, hm7, hpos7, hO7⟩
                     obtain ⟨hf0b, hf1b⟩ : w7.cell? ⟨p', 0, none⟩ = some (.slice Ac bs.length cc) ∧ w7.cell? ⟨p', 1, none⟩ = some (.int .i64 (k : Int)) := ⟨hO7.cell hf0 (by simp), hO7.cell hf1 (by simp)⟩
                     have HO7 := Lib.hid (only_of_drawn hO7)
                     have HPOS7 := Lib.hid (And.intro hc7 (And.intro hm7 hpos7))
                     clear hO7 hc7 hm7 hpos7)
                  | (go_at_call 34; refine (alike_bytes_any A7 bs.length c7 bs Ac bs.length cc bs _ (by exact made_bys HPOS7.out.1 HPOS7.out.2.1 HPOS7.out.2.2) (by exact HFB.out.keep0 HO7.out)).mono ?_; rintro e w8 ⟨rfl, n8, rfl⟩))
                have hd8 : decide (bs = bs) = true := by simp
                go_wp2
                go_roundg (gk - 1)
                case measure => omega
                case rel => exact ⟨j + 1, p, g, p', g', k, bs, by omega, by go_num, rfl, rfl, (HTC.out.keep0 HO7.out).keep0 ((Only.refl _ _).drewN _)⟩
    · have HBIG := Lib.hid hbig
      by_cases hb1 : n1 ≤ 100
      · have hb2 : 200 < n2 := by omega
        have hd1 : decide (100 < (n1 : Int)) = false := by simp; omega
        clear hbig
        go_wp2_with (first | (go_at_call 19; refine (awake1 _).mono ?_; rintro e w1 ⟨rfl, hO1⟩; have HO1 := Lib.hid hO1; clear hO1))
        go_ret
        exact ⟨rfl, (HT.out.2.2.1.alloc _).trans' HO1.out⟩
      · have hb2 : 100 < n1 := by omega
        have hd1 : decide (100 < (n1 : Int)) = true := by simp; omega
        clear hbig hb1
        go_wp2_with (first | (go_at_call 19; refine (awake1 _).mono ?_; rintro e w1 ⟨rfl, hO1⟩; have HO1 := Lib.hid hO1; clear hO1))
        go_ret
        exact ⟨rfl, (HT.out.2.2.1.alloc _).trans' HO1.out⟩
  · obtain rfl : j = n := by omega
    clear hlt hj
    go_wp2_with (first | (go_at_call 19; refine (awake1 _).mono ?_; rintro e w1 ⟨rfl, hO1⟩; have HO1 := Lib.hid hO1; clear hO1))
    go_ret
    exact ⟨rfl, HT.out.2.2.1.trans' HO1.out⟩

set_option maxRecDepth 100000 in
set_option maxHeartbeats 1000000 in
theorem walk_none (size : Int) (A : Option Addr) (n c : Nat) (w : World) (hn : n ≤ 60) (hs : size < 0 ∨ 65536 < size) :
    Calls Try.prog 6 #[.int .i64 size, .slice A n c] w fun e w' => e = .returned (.bool true) ∧ Only [] w w' := by
  have hd1 : decide (60 < (n : Int)) = false := by simp; omega
  go_enter Try.func6, Try.ntmps6
  go_wp2_with fail
  refine (new_none size _ hs).mono ?_
  rintro e w1 ⟨rfl, rfl⟩
  go_wp2_with fail
  refine (ref_new_none size _ hs).mono ?_
  rintro e w1 ⟨rfl, rfl⟩
  go_wp2_with (first | (go_at_call 19; refine (awake1 _).mono ?_; rintro e w1 ⟨rfl, hO1⟩))
  go_ret
  exact ⟨rfl, hO1⟩

set_option maxRecDepth 100000 in
theorem walk_many (size : Int) (A : Option Addr) (n c : Nat) (w : World) (hn : 60 < n) (hm : n ≤ maxLen) :
    Calls Try.prog 6 #[.int .i64 size, .slice A n c] w fun e w' => e = .returned (.bool true) ∧ Only [] w w' := by
  unfold maxLen at hm
  go_enter Try.func6, Try.ntmps6
  go_wp2_with (first | (go_at_call 19; refine (awake1 _).mono ?_; rintro e w1 ⟨rfl, hO1⟩))
  go_ret
  exact ⟨rfl, hO1⟩

end Go.Proofs.Ytcojleippbneoaa.rowPlays
