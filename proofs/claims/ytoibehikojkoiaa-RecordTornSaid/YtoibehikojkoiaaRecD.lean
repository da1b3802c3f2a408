/- Contracts of record.heading, record.Size. -/
import Derived.Test.YtoibehikojkoiaaRecC
import Derived.Test.YtoibehikojkoiaaItemC
import Derived.Test.YtoibehikojkoiaaRowD
import Derived.Test.YtoibehikojkoiaaBytesEq
set_option linter.unusedVariables false
set_option linter.unusedSimpArgs false
namespace Go.Kn
open Go Go.RowKit
/-- what the calls of a summary's reader give -/
def hdK1 (b : List UInt8) : Nat := takeK b 0 2
def hdK2 (b : List UInt8) : Nat := takeK b (hdK1 b) 12
def hdN (b : List UInt8) : Nat := getN b (hdK2 b) 1
def hdK3 (b : List UInt8) : Nat := getK b (hdK2 b) 1
def hdB (b : List UInt8) : Nat := getN b (hdK3 b) 1
def hdK4 (b : List UInt8) : Nat := getK b (hdK3 b) 1
def hdG (b : List UInt8) : Bool := getOk b (hdK3 b) 1
def hdM (b : List UInt8) : Bool := decide (takeB b 0 2 = [75, 82])
def hdOk (b : List UInt8) : Bool := hdG b && (hdM b && (decide (1 ≤ hdN b ∧ hdN b ≤ 6) && decide (hdB b ≤ hdN b)))
theorem getN_lt (b : List UInt8) (k : Nat) : getN b k 1 ≤ 255 := by
  unfold getN
  split
  · have h1 := num_lt ((b.drop k).take 1)
    have h2 : ((b.drop k).take 1).length ≤ 1 := by simp <;> omega
    have h3 : (256 : Nat) ^ ((b.drop k).take 1).length ≤ 256 ^ 1 := Nat.pow_le_pow_right (by decide) h2
    have e : (Int.toNat 1) = 1 := rfl
    rw [e]
    omega
  · omega
theorem hd_at {b : List UInt8} (h : 16 ≤ b.length) : hdN b = rcN b ∧ hdB b = rcK b ∧ hdOk b = rcHd b ∧ hdK4 b = 16 := by
  obtain ⟨a1, a2⟩ := took_at (bs := b) (k := 0) (n := 2) (by omega)
  obtain ⟨b1, b2⟩ := took_at (bs := b) (k := 2) (n := 12) (by omega)
  obtain ⟨c1, c2⟩ := got_at (bs := b) (k := 14) (n := 1) (by omega) (by omega)
  obtain ⟨d1, d2⟩ := got_at (bs := b) (k := 15) (n := 1) (by omega) (by omega)
  have hg : getOk b 15 1 = true := decide_eq_true ⟨by omega, by omega⟩
  simp only [Int.natCast_one, show ((2 : Nat) : Int) = 2 from rfl, show ((12 : Nat) : Int) = 12 from rfl, Nat.zero_add, List.drop_zero] at a1 a2 b2 c1 c2 d1 d2
  have e1 : hdK1 b = 2 := a2
  have e2 : hdK2 b = 14 := by unfold hdK2; rw [e1]; exact b2
  have e3 : hdN b = rcN b := by unfold hdN; rw [e2]; unfold rd at c1; unfold rcN; omega
  have e4 : hdK3 b = 15 := by unfold hdK3; rw [e2]; exact c2
  have e5 : hdB b = rcK b := by unfold hdB; rw [e4]; unfold rd at d1; unfold rcK; omega
  refine ⟨e3, e5, ?_, by unfold hdK4; rw [e4]; exact d2⟩
  unfold hdOk rcHd hdG hdM
  rw [e4, hg, a1, e3, e5, Bool.true_and]
/-- what the reader of a summary answers -/
def HdSays (w : World) (p g : Nat) (b : List UInt8) (e : Ending) (w' : World) : Prop :=
  e = .returned (.tuple #[.int .i64 (hdN b : Nat), .int .i64 (hdB b : Nat), .bool (hdOk b)]) ∧ RowAt w' p g b (hdK4 b) ∧ Only [p] w w'
end Go.Kn
namespace Go.Proofs.Ytoibehikojkoiaa
open Go Go.RowKit Go.Kn

set_option maxRecDepth 100000 in
set_option maxHeartbeats 8000000 in
theorem rec_heading_any (p g : Nat) (b : List UInt8) (w : World) (h : RowAt w p g b 0) :
    Calls Try.prog 86 #[.pointer (some ⟨p, 0, none⟩)] w (HdSays w p g b) := by
  have HR := Lib.hid h
  have hlp := h.lp
  clear h
  have hn1 := getN_lt b (hdK2 b)
  have hn2 := getN_lt b (hdK3 b)
  go_enter Try.func86, Try.ntmps86
  go_wp2_with fail
  refine (take_all p g 0 b 2 _ HR.out).mono ?_
  rintro e w1 ⟨A1, c1, rfl, hb1, hf1, hr1, hO1⟩
  have HNE : Hid (0 < (takeB b 0 2).length → ∀ a, A1 = some a → a.block ≠ p) := Lib.hid (fun h0 a ha => by have := hf1 h0 a ha; omega)
  have HB1 := Lib.hid hb1
  have HR1 : Hid (RowAt w1 p g b (hdK1 b)) := Lib.hid hr1
  have HO1 := Lib.hid hO1
  have HMD : Hid (hdM b = decide (takeB b 0 2 = [75, 82])) := Lib.hid rfl
  clear hb1 hf1 hr1 hO1 HR
  generalize takeB b 0 2 = mg at *
  generalize takeOk b 0 2 = o1 at *
  go_wp2_with fail
  refine (take_all p g (hdK1 b) b 12 _ HR1.out).mono ?_
  rintro e w2 ⟨A2, c2, rfl, hb2, hf2, hr2, hO2⟩
  have HR2 : Hid (RowAt w2 p g b (hdK2 b)) := Lib.hid hr2
  have HO2 := Lib.hid (HO1.out.trans' hO2)
  have HB2 := Lib.hid (HB1.out.keepP hO2 (fun h0 a ha => by have := HNE.out h0 a ha; simpa using this))
  clear hb2 hf2 hr2 hO2 HR1 HO1 HB1
  generalize takeB b (hdK1 b) 12 = mh at *
  generalize takeOk b (hdK1 b) 12 = o2 at *
  go_wp2_with fail
  refine (get_all p g (hdK2 b) b 1 _ HR2.out).mono ?_
  rintro e w3 ⟨rfl, hr3, hO3⟩
  have HR3 : Hid (RowAt w3 p g b (hdK3 b)) := Lib.hid hr3
  have HO3 := Lib.hid (HO2.out.trans' hO3)
  have HB3 := Lib.hid (HB2.out.keepP hO3 (fun h0 a ha => by have := HNE.out h0 a ha; simpa using this))
  clear hr3 hO3 HR2 HO2 HB2
  have HN : Hid (hdN b = getN b (hdK2 b) 1) := Lib.hid rfl
  generalize hN : getN b (hdK2 b) 1 = N at *
  generalize getOk b (hdK2 b) 1 = o3 at *
  clear hN
  go_wp2_with fail
  refine (get_all p g (hdK3 b) b 1 _ HR3.out).mono ?_
  rintro e w4 ⟨rfl, hr4, hO4⟩
  have HR4 : Hid (RowAt w4 p g b (hdK4 b)) := Lib.hid hr4
  have HO4 := Lib.hid (HO3.out.trans' hO4)
  have hb4 := HB3.out.keepP hO4 (fun h0 a ha => by have := HNE.out h0 a ha; simpa using this)
  clear hr4 hO4 HR3 HO3 HB3
  have HB : Hid (hdB b = getN b (hdK3 b) 1) := Lib.hid rfl
  have HG : Hid (hdG b = getOk b (hdK3 b) 1) := Lib.hid rfl
  generalize hK : getN b (hdK3 b) 1 = K at *
  generalize hG : getOk b (hdK3 b) 1 = G at *
  clear hK hG
  have hst := run_bytes_str (P := Try.prog) w4 35 9 5 Try.underlying35 Try.underlying5 Try.underlying9 A1 mg.length c1 mg hb4
  clear hb4
  have hOk : hdOk b = (G && (hdM b && (decide (1 ≤ (N : Int) ∧ (N : Int) ≤ 6) && decide (K ≤ N)))) := by
    unfold hdOk
    rw [HG.out, HN.out, HB.out]
    have e1 : decide (1 ≤ N ∧ N ≤ 6) = decide (1 ≤ (N : Int) ∧ (N : Int) ≤ 6) := by congr 1; simp only [eq_iff_iff]; omega
    rw [e1]
  have HOK := Lib.hid hOk
  clear hOk
  cases G
  · go_wp2
    go_ret3
    exact ⟨by rw [HOK.out, HN.out, HB.out]; rfl, HR4.out, HO4.out⟩
  · by_cases hmg : mg = [75, 82]
    · subst hmg
      rw [show ([75, 82] : List UInt8).length = 2 from rfl] at hst
      have hmd : hdM b = true := by rw [HMD.out]; rfl
      have HMD2 := Lib.hid hmd
      clear hmd
      obtain ⟨q, hq⟩ : ∃ q, decide (1 ≤ (N : Int) ∧ (N : Int) ≤ 6) = q := ⟨_, rfl⟩
      have HQ := Lib.hid hq
      clear hq
      have hk1 : (K : Int) ≤ 255 := by omega
      cases q
      · go_wp2_with fail
        refine (rec_within_any _ _ _ _).mono ?_
        rintro e w5 ⟨rfl, rfl⟩
        rw [HQ.out]
        go_wp2
        go_ret3
        exact ⟨by rw [HOK.out, HN.out, HB.out, HMD2.out, HQ.out]; rfl, HR4.out, HO4.out⟩
      · go_wp2_with fail
        refine (rec_within_any _ _ _ _).mono ?_
        rintro e w5 ⟨rfl, rfl⟩
        rw [HQ.out]
        go_wp2
        go_ret3
        exact ⟨by rw [HOK.out, HN.out, HB.out, HMD2.out, HQ.out]; rfl, HR4.out, HO4.out⟩
    · have hmd : hdM b = false := by rw [HMD.out]; exact decide_eq_false hmg
      have HMD2 := Lib.hid hmd
      clear hmd
      have hse : (mg == [75, 82]) = false := by simpa using hmg
      go_wp2_with fail
      go_ret3
      exact ⟨by rw [HOK.out, HN.out, HB.out, HMD2.out]; rfl, HR4.out, HO4.out⟩

set_option maxRecDepth 100000 in
set_option maxHeartbeats 4000000 in
theorem rec_size_any (A : Option Addr) (n c : Nat) (b : List UInt8) (w : World) (hi : Bys w A n c b) (hn : n ≤ 65536) :
    Calls Try.prog 28 #[.slice A n c] w fun e w' => e = .returned (.int .i64 (sizeRc b : Nat)) ∧ Only [] w w' := by
  have hlen := hi.len
  rw [bvs_length] at hlen
  have HI := Lib.hid hi
  have hK := getN_lt b (hdK3 b)
  have hsz : sizeRc b = if n = 64 ∧ hdOk b = true then 1 + hdB b else 0 := by
    unfold sizeRc
    rw [hlen]
    by_cases h : n = 64
    · obtain ⟨h1, h2, h3, _⟩ := hd_at (b := b) (by omega)
      rw [h2, h3]
    · rw [if_neg (fun hh => h hh.1), if_neg (fun hh => h hh.1)]
  have HSZ := Lib.hid hsz
  clear hi hlen hsz
  go_enter Try.func28, Try.ntmps28
  go_wp2_with fail
  refine (from_any A n c b _ HI.out hn).mono ?_
  rintro e w1 ⟨p, g, rfl, hp, hg, hr1, hO1⟩
  have HR1 := Lib.hid hr1
  have HO1 := Lib.hid hO1
  have HP := Lib.hid hp
  clear hr1 hO1 hp hg
  go_wp2_with fail
  refine (rec_heading_any p g b _ HR1.out).mono ?_
  rintro e w2 ⟨rfl, hr2, hO2⟩
  have HO2 := Lib.hid (HO1.out.trans hO2 (by have := HP.out; simp; omega) : Only [] w w2)
  clear hr2 hO2
  have hK2 : hdB b ≤ 255 := hK
  obtain ⟨q, hq⟩ : ∃ q, hdOk b = q := ⟨_, rfl⟩
  have HQ := Lib.hid hq
  rw [hq]
  generalize hdB b = K at *
  generalize hdN b = N at *
  clear hq hK
  cases q
  · go_wp2
    go_ret
    refine ⟨?_, HO2.out⟩
    rw [HSZ.out, HQ.out, if_neg (by simp)]
    rfl
  · by_cases h : n = 64
    · subst h
      go_wp2
      go_ret
      refine ⟨?_, HO2.out⟩
      rw [HSZ.out, HQ.out, if_pos (by simp)]
      go_num
    · have hd : ((n : Int) != 64) = true := by simp; omega
      have HN := Lib.hid h
      clear h
      go_wp2
      go_ret
      refine ⟨?_, HO2.out⟩
      rw [HSZ.out, if_neg (fun hh => HN.out hh.1)]
      rfl
end Go.Proofs.Ytoibehikojkoiaa
