/- Contracts of crc.Sum of many parts, slices.Grow of nothing, slices.Concat of rows of bytes. -/
import Derived.Test.YtoibehikojkoiaaRecP
import Derived.Test.YtoibehikojkoiaaCrcB
import Derived.Lib.AppendZerosOnto
set_option linter.unusedVariables false
set_option linter.unusedSimpArgs false
namespace Go.Kn
open Go Go.RowKit
theorem flat_take {bl : List (List UInt8)} {j : Nat} (hj : j < bl.length) : (bl.take (j + 1)).flatten = (bl.take j).flatten ++ bl[j] := by
  rw [List.take_succ_eq_append_getElem hj, List.flatten_append, List.flatten_cons, List.flatten_nil, List.append_nil]
theorem flat_take_le (bl : List (List UInt8)) (j : Nat) : (bl.take j).flatten.length ≤ bl.flatten.length := by
  have h := List.take_append_drop j bl
  have h2 : bl.flatten = (bl.take j).flatten ++ (bl.drop j).flatten := by rw [← List.flatten_append, h]
  rw [h2, List.length_append]
  omega
theorem zeroCells_size (z : Value) (n : Nat) (hz : z.cells.size = 1) : (Builtin.zeroCells z.cells n).size = n := by
  simp [Builtin.zeroCells, hz]
end Go.Kn
namespace Go.Proofs.Ytoibehikojkoiaa
open Go Go.RowKit Go.Kn

set_option maxRecDepth 100000 in
set_option maxHeartbeats 4000000 in
theorem crc_sum_blks (A : Option Addr) (n c : Nat) (bl : List (List UInt8)) (w : World) (hi : Blks w A n c bl) :
    Calls Try.prog 67 #[.slice A n c] w fun e w' => e = .returned (.int .i64 (csum bl.flatten : Nat)) ∧ Only [] w w' := by
  have hlen := hi.len
  have hcm := hi.cm
  have hcl := hi.le
  unfold maxLen at hcm
  have HI := Lib.hid hi
  have HL := Lib.hid hlen
  clear hi hlen
  go_enter Try.func67, Try.ntmps67
  go_wp2_with fail
  go_loopg [3, 8] n (fun r v i wr => ∃ j : Nat, j + r = n ∧ i = .int .i64 j ∧ v = .int .u32 (cadd 4294967295 (bl.take j).flatten : Nat) ∧ Only [] w wr)
  case atStart => exact ⟨0, by omega, rfl, by simp [cadd], Only.refl _ _⟩
  obtain ⟨j, hj, rfl, rfl, hO⟩ := hrel
  have HO := Lib.hid hO
  have hlx := cadd_lt (x := 4294967295) (by decide) (bl.take j).flatten
  clear hO
  by_cases hlt : j < n
  · have hjz : j < bl.length := by rw [HL.out]; exact hlt
    obtain ⟨a, o, B, m, d, rfl, q0, hb⟩ := HI.out.at_ j hlt
    have c0 := HO.out.cell q0 (by simp)
    have HB := Lib.hid (hb.keep0 HO.out)
    have hsn : cadd 4294967295 (bl.take (j + 1)).flatten = cadd (cadd 4294967295 (bl.take j).flatten) bl[j] := by rw [flat_take hjz, cadd_append]
    have HSN := Lib.hid hsn
    clear hb q0 hsn
    generalize bl[j] = bs at *
    generalize cadd 4294967295 (bl.take j).flatten = y at *
    have hlt2 : (j : Int) < (n : Int) := by omega
    go_wp2_with fail
    refine (crc_add_any y B m d bs _ hlx (by exact HB.out)).mono ?_
    rintro e w3 ⟨rfl, hO⟩
    have HO3 := Lib.hid (HO.out.trans' hO)
    clear hO c0
    generalize hz : cadd y bs = z at *
    have HZ := Lib.hid hz
    clear hz
    go_wp2_with fail
    go_roundg (gk - 1)
    case measure => omega
    case rel => exact ⟨j + 1, by omega, by go_num, by rw [HSN.out], HO3.out⟩
  · obtain rfl : j = n := by omega
    have htk : bl.take j = bl := List.take_of_length_le (by rw [HL.out]; omega)
    rw [htk] at hlx ⊢
    have hy : csum bl.flatten = 4294967295 - cadd 4294967295 bl.flatten := rfl
    have hn := bits_not_u32 (cadd 4294967295 bl.flatten) hlx
    rw [← hy] at hn
    have hs := csum_lt bl.flatten
    clear hy htk
    generalize cadd 4294967295 bl.flatten = y at *
    generalize hcs : csum bl.flatten = s at *
    have HCS := Lib.hid hcs
    clear hcs
    go_wp2
    go_ret
    refine ⟨?_, HO.out⟩
    have hw : wrap64 (s : Int) = s := by unfold wrap64; omega
    rw [HCS.out, ← hw]
    simp [hw]

theorem Try.infoU8b : (Try.prog.info? 5).map (fun i => (i.zero, i.size, i.bytes)) = some (some (.int .u8 0), 1, 1) := by kernel_rfl

/-- room for so many bytes -/
def GrownNil (w : World) (e : Ending) (w' : World) : Prop := ∃ v, e = .returned v ∧ w'.ownsRow w.heap.size 5 1 v 0 [] ∧ Only [] w w' ∧ ∃ A c, v = .slice A 0 c

set_option maxRecDepth 100000 in
set_option maxHeartbeats 2000000 in
theorem grow_nil_any (n : Nat) (w : World) (hn : n ≤ 1000000) :
    Calls Try.prog 136 #[.slice none 0 0, .int .i64 n] w (GrownNil w) := by
  obtain ⟨i0, hi, hz0, hz1, hz2⟩ := info_parts Try.infoU8b
  rcases Nat.eq_zero_or_pos n with h0 | h0
  · subst h0
    go_enter Try.func136, Try.ntmps136
    go_wp2
    go_ret
    exact ⟨_, rfl, World.ownsRow_nil w _ _ _, Only.refl _ _, none, 0, rfl⟩
  · have hrz : ∀ ty, (Builtin.append_ #[35, 3] ty #[.slice none 0 0, .int .i64 n]).run Try.prog w = .ok (.slice (some ⟨w.heap.size, 0, none⟩) n (grownCap w n 0 5)) (w.drew.alloc (.cells (Builtin.zeroCells (Value.int .u8 0).cells n ++ Builtin.zeroCells (Value.int .u8 0).cells (grownCap w n 0 5 - n)) 5)) := fun ty =>
      Lib.run_append_nil_zeros w 35 3 ty 5 i0 (.int .u8 0) .i64 .i64 Try.underlying35 Try.underlying3 hi hz0 n h0 (by rw [hz1]; decide) (by omega) (by rw [hz2]; omega)
    have hge := grownCap_ge w n 0 5
    have hle := grownCap_le_maxLen w n 0 5 (by unfold maxLen; omega)
    have hsz : (Builtin.zeroCells (Value.int .u8 0).cells n ++ Builtin.zeroCells (Value.int .u8 0).cells (grownCap w n 0 5 - n)).size = grownCap w n 0 5 := by
      rw [Array.size_append, zeroCells_size _ _ rfl, zeroCells_size _ _ rfl]
      omega
    generalize Builtin.zeroCells (Value.int .u8 0).cells n ++ Builtin.zeroCells (Value.int .u8 0).cells (grownCap w n 0 5 - n) = cur at *
    generalize grownCap w n 0 5 = G at *
    have hG63 : G ≤ 9223372036854775807 := by unfold maxLen at hle; exact hle
    have HSZ := Lib.hid hsz
    clear hsz
    go_enter Try.func136, Try.ntmps136
    go_wp2_with (at_builtin; refine Lib.wpList_append_run _ rfl _ _ _ _ rfl _ _ rfl rfl _ _ (hrz _) ?_)
    go_ret
    refine ⟨_, rfl, ⟨rfl, .inr ⟨w.heap.size, G, cur, rfl, Nat.le_refl _, ?_, Nat.zero_le _, hle, by rw [HSZ.out, Nat.mul_one], by simp⟩⟩, ((Only.refl _ _).drew).alloc _, _, _, rfl⟩
    exact heap_alloc_new w.drew _

set_option maxRecDepth 100000 in
set_option maxHeartbeats 4000000 in
theorem concat_any (A : Option Addr) (n c : Nat) (bl : List (List UInt8)) (w : World) (hi : Blks w A n c bl) (ht : bl.flatten.length ≤ 65536) :
    Calls Try.prog 68 #[.slice A n c] w (MadeBys w bl.flatten) := by
  obtain ⟨i0, hi0, hz0, hz1, hz2⟩ := info_parts Try.infoU8b
  have hlen := hi.len
  have hcm := hi.cm
  have hcl := hi.le
  unfold maxLen at hcm
  have HI := Lib.hid hi
  have HL := Lib.hid hlen
  clear hi hlen
  go_enter Try.func68, Try.ntmps68
  go_wp2_with fail
  go_loopg [3, 11] n (fun r v i wr => ∃ j : Nat, j + r = n ∧ i = .int .i64 j ∧ v = .int .i64 ((bl.take j).flatten.length : Nat) ∧ w = wr)
  case atStart => exact ⟨0, by omega, rfl, by simp, rfl⟩
  obtain ⟨j, hj, rfl, rfl, rfl⟩ := hrel
  have hle := flat_take_le bl j
  by_cases hlt : j < n
  · have hjz : j < bl.length := by rw [HL.out]; exact hlt
    obtain ⟨a, o, B, m, d, rfl, c0, hb⟩ := HI.out.at_ j hlt
    have hm := hb.len
    have hmd := hb.le
    have hdm := hb.cm
    rw [bvs_length] at hm
    unfold maxLen at hdm
    have hle2 := flat_take_le bl (j + 1)
    have hsn : (bl.take (j + 1)).flatten.length = (bl.take j).flatten.length + m := by rw [flat_take hjz, List.length_append, hm]
    have HSN := Lib.hid hsn
    rw [hsn] at hle2
    clear hb hsn hm
    generalize (bl.take j).flatten.length = y at *
    generalize bl.flatten.length = tt at *
    have hlt2 : (j : Int) < (n : Int) := by omega
    have hng : ¬ ((y : Int) + (m : Int) < 0) := by omega
    go_wp2_with fail
    go_roundg (gk - 1)
    case measure => omega
    case rel => exact ⟨j + 1, by omega, by go_num, by rw [HSN.out]; go_num, rfl⟩
  · obtain rfl : j = n := by omega
    have htk : bl.take j = bl := List.take_of_length_le (by rw [HL.out]; omega)
    rw [htk] at hle ⊢
    clear htk
    have HFL : ∃ T, T = bl.flatten.length := ⟨_, rfl⟩
    obtain ⟨T, hT⟩ := HFL
    rw [← hT] at ht hle ⊢
    have HT := Lib.hid hT
    clear hT hle
    go_wp2_with fail
    refine (grow_nil_any T _ (by omega)).mono ?_
    rintro e w1 ⟨v, rfl, hown, hO, A1, c1, hv⟩
    have HG : Hid (Gath w1 w.heap.size 5 v []) := Lib.hid ⟨hown, hO.size⟩
    have HO := Lib.hid hO
    have HV := Lib.hid hv
    clear hown hO hv
    go_wp2_with fail
    go_loopg [6, 27] j (fun r v i wr => ∃ k : Nat, k + r = j ∧ i = .int .i64 k ∧ Gath wr w.heap.size 5 v (bvs (bl.take k).flatten) ∧ Only [] w wr)
    case atStart => exact ⟨0, by omega, rfl, by simpa [bvs] using HG.out, HO.out⟩
    obtain ⟨k, hk, rfl, hg, hO⟩ := hrel
    obtain ⟨A2, c2, rfl, _, _⟩ := hg.formN (bvs_length _)
    have HG2 := Lib.hid hg
    have HO2 := Lib.hid hO
    have hle := flat_take_le bl k
    rw [← HT.out] at hle
    clear hg hO HG HO
    by_cases hlt : k < j
    · have hjz : k < bl.length := by rw [HL.out]; exact hlt
      obtain ⟨a, o, B, m, d, rfl, q0, hb⟩ := HI.out.at_ k hlt
      have c0 := HO2.out.cell q0 (by simp)
      have hm := hb.len
      have hmd := hb.le
      have hdm := hb.cm
      rw [bvs_length] at hm
      have hle2 := flat_take_le bl (k + 1)
      rw [flat_take hjz, List.length_append, hm, ← HT.out] at hle2
      have HB := Lib.hid (hb.keep0 HO2.out)
      have HSN := Lib.hid (flat_take hjz)
      have hone := bvs_one bl[k]
      clear hb q0 hm
      generalize bl[k] = bs at *
      generalize (bl.take k).flatten = acc at *
      have hlt2 : (k : Int) < (j : Int) := by omega
      go_wp2_with (first | (at_builtin; refine wpList_append_row1 rfl (.tmp 31) (.tmp 32) 35 rfl w.heap.size 5 i0 _ 1 Try.underlying35 hi0 hz0 hz1 hz2 rfl (.slice A2 acc.length c2) acc.length (bvs acc) rfl (HG2.out.own (Only.refl _ _) (bvs_length _)) B m d (bvs bs) rfl HB.out hone (by unfold maxLen; omega) (by omega) HG2.out.2 ?_; intro v' w8 hown hgrow hat) | fail)
      go_roundg (gk - 1)
      case measure => omega
      case rel =>
        have hl := HB.out.len
        rw [bvs_length] at hl
        obtain ⟨hG, hO⟩ := HG2.out.grown HO2.out rfl hown (by simp [hl]) hgrow
        refine ⟨k + 1, by omega, by go_num, ?_, hO⟩
        rw [HSN.out, show bvs (acc ++ bs) = bvs acc ++ bvs bs by simp [bvs]]
        exact hG
    · obtain rfl : k = j := by omega
      have htk : bl.take k = bl := List.take_of_length_le (by rw [HL.out]; omega)
      have hG := HG2.out
      rw [htk] at hG ⊢
      have HG3 := Lib.hid hG
      clear hG htk HG2
      go_wp2
      go_ret
      have hown := HG3.out.1
      rw [bvs_length] at hown
      rcases hown.2 with ⟨h1, h2⟩ | ⟨g, cap, cur, h1, hb', hh, hn, hm, hs, htt⟩
      · injection h1 with h1 h3 h4
        subst h1 h4
        have e : bl.flatten = [] := List.eq_nil_of_length_eq_zero h2
        exact ⟨none, 0, rfl, by rw [e]; simp, by simp [maxLen], by rw [e]; simp, HO2.out⟩
      · injection h1 with h1 h3 h4
        subst h1 h4
        obtain ⟨ho, _⟩ := Own.of_own hown
        exact ⟨_, _, rfl, hn, hm, fun _ => ⟨g, rfl, hb', ho⟩, HO2.out⟩
end Go.Proofs.Ytoibehikojkoiaa
