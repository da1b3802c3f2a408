/- The law package of chapter 30: few, awake. -/
import Derived.Test.YtjmbhknokobnpaaScrL
import Derived.Test.YtjmbhknokobnpaaLaw5A
set_option linter.unusedVariables false
set_option linter.unusedSimpArgs false
namespace Go.Kn
open Go Go.RowKit
def fewB (l : List Ev) : Bool := l.all (fun e => decide (e.ps.length ≤ 200)) && decide (l.length ≤ 500)
/-- events just built -/
theorem evs_built (w : World) (xs : List (Ev × Sl)) (t : TypeId) (hx : ∀ x ∈ xs, Ins w x.2.1 x.2.2.1 x.2.2.2 x.1.ps) (hm : xs.length ≤ 1000000) : Evs (w.alloc (.cells (evsV xs).toArray t)) (some ⟨w.heap.size, 0, none⟩) xs.length xs.length (xs.map (·.1)) := by
  have h := Own.new w (evsV xs).toArray t
  refine ⟨by simp, Nat.le_refl _, by unfold maxLen; omega, fun hn => ⟨w.heap.size, 0, rfl, fun i hi => ?_⟩⟩
  have hi' : i < xs.length := by simpa using hi
  obtain ⟨c0, c1, c2, c3, c4⟩ := evsV_get xs i hi'
  have hc : ∀ j u, (evsV xs)[j]? = some u → (w.alloc (.cells (evsV xs).toArray t)).cell? ⟨w.heap.size, j, none⟩ = some u := by
    intro j u hj
    obtain ⟨h1, h2⟩ := List.getElem?_eq_some_iff.1 hj
    have := h.cell j (by simpa using h1)
    rw [this]
    simp [h2]
  simp only [Nat.zero_add, List.getElem_map]
  exact ⟨hc _ _ c0, hc _ _ c1, hc _ _ c2, hc _ _ c3, _, _, _, hc _ _ c4, (hx _ (List.getElem_mem hi')).alloc _⟩
def aw30 : List Ev := [⟨1, 3, 4, 5, []⟩, ⟨18, 0, 0, 0, [1, 191]⟩]
theorem aw30_len : (scrBytes [⟨1, 3, 4, 5, []⟩, ⟨18, 0, 0, 0, [1, 191]⟩]).length = 34 := by rw [scrBytes_length]; rfl
theorem aw30_at : (scrBytes [⟨1, 3, 4, 5, []⟩, ⟨18, 0, 0, 0, [1, 191]⟩])[1]? = some 69 := by decide +kernel
theorem aw30_enc : encEvs [⟨1, 3, 4, 5, []⟩, ⟨18, 0, 0, 0, [1, 191]⟩] = some (scrBytes [⟨1, 3, 4, 5, []⟩, ⟨18, 0, 0, 0, [1, 191]⟩]) := encEvs_good (by decide) (by decide)
theorem aw30_dec : decEvs (scrBytes [⟨1, 3, 4, 5, []⟩, ⟨18, 0, 0, 0, [1, 191]⟩]) = some [⟨1, 3, 4, 5, []⟩, ⟨18, 0, 0, 0, [1, 191]⟩] := evs_back (by decide) (by decide)
theorem aw30_nil : encEvs [] = some (scrBytes []) := encEvs_good (by decide) (by decide)
theorem aw30_nil_len : (scrBytes []).length = 8 := by rw [scrBytes_length]; rfl
theorem aw30_bad : encEvs [⟨20, 0, 0, 0, []⟩] = none := encEvs_bad (j := 0) (by decide) (by decide)
theorem aw30_none : decEvs [] = none := evs_len (.inl (by decide))
theorem bys_at {w : World} {g o n c i : Nat} {bs : List UInt8} {x : UInt8} (h : Bys w (some ⟨g, o, none⟩) n c bs) (hi : bs[i]? = some x) : w.cell? ⟨g, o + i, none⟩ = some (.int .u8 (x.toNat : Int)) := by
  obtain ⟨h1, h2⟩ := List.getElem?_eq_some_iff.1 hi
  have hl := h.len
  rw [bvs_length] at hl
  obtain ⟨g', o', e, hc⟩ := h.at_ (by omega)
  injection e with e
  injection e with e1 e2
  subst e1 e2
  have := hc i (by simpa using h1)
  rw [bvs_get, h2] at this
  exact this
end Go.Kn
namespace Go.Proofs.Ytjmbhknokobnpaa
open Go Go.RowKit Go.Kn

set_option maxRecDepth 100000 in
set_option maxHeartbeats 2000000 in
theorem few_any (A : Option Addr) (n c : Nat) (l : List Ev) (w : World) (hi : Evs w A n c l) :
    Calls Try.prog 29 #[.slice A n c] w fun e w' => e = .returned (.bool (fewB l)) ∧ w = w' := by
  have hlen := hi.len
  have hcm := hi.cm
  have hcl := hi.le
  unfold maxLen at hcm
  have HI := Lib.hid hi
  have HL := Lib.hid hlen
  clear hi hlen
  go_enter Try.func29, Try.ntmps29
  go_wp2_with fail
  go_loopg [3] n (fun r i wr => ∃ j : Nat, j + r = n ∧ i = .int .i64 j ∧ w = wr ∧ (l.take j).all (fun e => decide (e.ps.length ≤ 200)) = true)
  case atStart => exact ⟨0, by omega, rfl, rfl, by simp⟩
  obtain ⟨j, hj, rfl, rfl, hal⟩ := hrel
  have HAL := Lib.hid hal
  clear hal
  by_cases hlt : j < n
  · have hjz : j < l.length := by rw [HL.out]; exact hlt
    obtain ⟨a, o, rfl, hc⟩ := HI.out.at_ (by omega)
    obtain ⟨_, _, _, _, B, m, d, c4, hp⟩ := hc j hjz
    have hpl := hp.len
    rw [ivs_length] at hpl
    have HPL := Lib.hid hpl
    clear hc hp hpl
    by_cases hm : m ≤ 200
    · go_wp2
      go_roundg (gk - 1)
      case measure => omega
      case rel =>
        refine ⟨j + 1, by omega, by go_num, rfl, ?_⟩
        rw [List.take_succ_eq_append_getElem hjz, List.all_append, HAL.out]
        simp [HPL.out, hm]
    · have hf : fewB l = false := by
        cases hb : fewB l with
        | false => rfl
        | true =>
          unfold fewB at hb
          simp only [Bool.and_eq_true] at hb
          have := List.all_eq_true.1 hb.1 l[j] (List.getElem_mem _)
          simp [HPL.out] at this
          omega
      have HF := Lib.hid hf
      clear hf
      go_wp2
      go_ret
      exact ⟨by rw [HF.out]; rfl, rfl⟩
  · obtain rfl : j = n := by omega
    have hfull : l.take j = l := List.take_of_length_le (by rw [HL.out]; omega)
    have hal := HAL.out
    rw [hfull] at hal
    have hf : fewB l = decide ((j : Int) ≤ 500) := by
      unfold fewB
      rw [hal, HL.out]
      simp
      omega
    have HF := Lib.hid hf
    clear hal hfull hf
    go_wp2
    go_ret
    exact ⟨by rw [HF.out]; rfl, rfl⟩

set_option maxRecDepth 100000 in
set_option maxHeartbeats 8000000 in
theorem awake30 (w : World) : Calls Try.prog 30 #[] w fun e w' => e = .returned (.bool true) ∧ Only [] w w' := by
  go_enter Try.func30, Try.ntmps30
  go_wp2_with fail
  refine (script_enc_any none 0 0 [] _ (Evs.nil _)).mono ?_
  rintro e w1 ⟨A1, c1, rfl, _, _, hO1⟩
  rw [aw30_nil]
  simp only [Option.getD_some, Option.isSome_some, if_true, aw30_nil_len]
  have HO1 := Lib.hid hO1
  clear hO1
  go_wp2_with fail
  have hi2 := ins_built w1 [1, 191] 3 2 rfl (by omega)
  have hev := evs_built (w1.alloc (.cells #[.int .i64 1, .int .i64 191] 3)) [(⟨1, 3, 4, 5, []⟩, (none, 0, 0)), (⟨18, 0, 0, 0, [1, 191]⟩, (some ⟨w1.heap.size, 0, none⟩, 2, 2))] 54 (by
    intro x hx
    simp at hx
    rcases hx with rfl | rfl
    · exact Row1.nil _
    · exact hi2) (by simp)
  have hs1 : (w1.alloc (.cells #[.int .i64 1, .int .i64 191] 3)).heap.size = w1.heap.size + 1 := by simp
  rw [hs1] at hev
  have HEV : Hid (Evs ((w1.alloc (.cells #[.int .i64 1, .int .i64 191] 3)).alloc (.cells #[.int .i64 1, .int .i64 3, .int .i64 4, .int .i64 5, .slice none 0 0, .int .i64 18, .int .i64 0, .int .i64 0, .int .i64 0, .slice (some ⟨w1.heap.size, 0, none⟩) 2 2] 54)) (some ⟨w1.heap.size + 1, 0, none⟩) 2 2 [⟨1, 3, 4, 5, []⟩, ⟨18, 0, 0, 0, [1, 191]⟩]) := Lib.hid hev
  have HO2 : Hid (Only [] w ((w1.alloc (.cells #[.int .i64 1, .int .i64 191] 3)).alloc (.cells #[.int .i64 1, .int .i64 3, .int .i64 4, .int .i64 5, .slice none 0 0, .int .i64 18, .int .i64 0, .int .i64 0, .int .i64 0, .slice (some ⟨w1.heap.size, 0, none⟩) 2 2] 54))) := Lib.hid ((HO1.out.alloc _).alloc _)
  generalize ((w1.alloc (.cells #[.int .i64 1, .int .i64 191] 3)).alloc (.cells #[.int .i64 1, .int .i64 3, .int .i64 4, .int .i64 5, .slice none 0 0, .int .i64 18, .int .i64 0, .int .i64 0, .int .i64 0, .slice (some ⟨w1.heap.size, 0, none⟩) 2 2] 54)) = w2 at *
  generalize w1.heap.size + 1 = g2 at *
  clear hi2 hev hs1 HO1
  refine (script_enc_any (some ⟨g2, 0, none⟩) 2 2 [⟨1, 3, 4, 5, []⟩, ⟨18, 0, 0, 0, [1, 191]⟩] _ HEV.out).mono ?_
  rintro e w3 ⟨A3, c3, rfl, hb3, _, hO3⟩
  rw [aw30_enc] at hb3
  rw [aw30_enc]
  simp only [Option.getD_some, Option.isSome_some, if_true, aw30_len] at hb3 ⊢
  have HEV3 := Lib.hid (HEV.out.keep0 hO3)
  have HX3 := Lib.hid hb3
  have HO3 := Lib.hid (HO2.out.trans' hO3)
  clear hb3 hO3 HEV HO2
  go_wp2_with fail
  refine (script_dec_any A3 34 c3 _ _ (by exact HX3.out) (by decide)).mono ?_
  rintro e w4 ⟨A4, c4, rfl, hb4, hO4⟩
  rw [aw30_dec] at hb4
  rw [aw30_dec]
  simp only [Option.getD_some, Option.isSome_some, if_true, List.length_cons, List.length_nil, Nat.zero_add, Nat.reduceAdd] at hb4 ⊢
  have HEV4 := Lib.hid ((HEV3.out.keep0 hO4).keep0 ((Only.refl _ _).alloc (.cells #[.int .i64 20, .int .i64 0, .int .i64 0, .int .i64 0, .slice none 0 0] 54)))
  have HY4 := Lib.hid (hb4.keep0 ((Only.refl _ _).alloc (.cells #[.int .i64 20, .int .i64 0, .int .i64 0, .int .i64 0, .slice none 0 0] 54)))
  have HX4 := Lib.hid ((HX3.out.keep0 hO4).alloc (.cells #[.int .i64 20, .int .i64 0, .int .i64 0, .int .i64 0, .slice none 0 0] 54))
  have HO4 := Lib.hid ((HO3.out.trans' hO4).alloc (.cells #[.int .i64 20, .int .i64 0, .int .i64 0, .int .i64 0, .slice none 0 0] 54))
  have hev5 := evs_built w4 [(⟨20, 0, 0, 0, []⟩, (none, 0, 0))] 54 (by
    intro x hx
    simp at hx
    subst hx
    exact Row1.nil _) (by simp)
  have HEV5 : Hid (Evs (w4.alloc (.cells #[.int .i64 20, .int .i64 0, .int .i64 0, .int .i64 0, .slice none 0 0] 54)) (some ⟨w4.heap.size, 0, none⟩) 1 1 [⟨20, 0, 0, 0, []⟩]) := Lib.hid hev5
  clear hb4 hO4 HEV3 HX3 HO3 hev5
  go_wp2_with fail
  refine (script_enc_any (some ⟨w4.heap.size, 0, none⟩) 1 1 [⟨20, 0, 0, 0, []⟩] _ (by exact HEV5.out)).mono ?_
  rintro e w5 ⟨A5, c5, rfl, _, _, hO5⟩
  rw [aw30_bad]
  simp only [Option.getD_none, Option.isSome_none, Bool.false_eq_true, if_false, List.length_nil]
  have HEV6 := Lib.hid (HEV4.out.keep0 hO5)
  have HY5 := Lib.hid (HY4.out.keep0 hO5)
  have HX5 := Lib.hid (HX4.out.keep0 hO5)
  have HO5 := Lib.hid (HO4.out.trans' hO5)
  clear hO5 HEV4 HY4 HX4 HO4 HEV5
  go_wp2_with fail
  refine (script_dec_any none 0 0 [] _ (by exact Row1.nil _) (by decide)).mono ?_
  rintro e w6 ⟨A6, c6, rfl, _, hO6⟩
  rw [aw30_none]
  simp only [Option.getD_none, Option.isSome_none, Bool.false_eq_true, if_false, List.length_nil]
  have HEV7 := Lib.hid (HEV6.out.keep0 hO6)
  have HY6 := Lib.hid (HY5.out.keep0 hO6)
  have hx6 := HX5.out.keep0 hO6
  have HO6 := Lib.hid (HO5.out.trans' hO6)
  obtain ⟨ga, oa, rfl, _⟩ := hx6.at_ (by decide)
  have q1 : w6.cell? ⟨ga, oa + 1, none⟩ = some (.int .u8 69) := bys_at hx6 aw30_at
  clear hO6 HEV6 HY5 HX5 HO5 hx6
  go_wp2_with (first
    | (go_at_call 38; refine (alike_events_any A4 2 c4 [⟨1, 3, 4, 5, []⟩, ⟨18, 0, 0, 0, [1, 191]⟩] (some ⟨g2, 0, none⟩) 2 2 [⟨1, 3, 4, 5, []⟩, ⟨18, 0, 0, 0, [1, 191]⟩] _ (by exact HY6.out) (by exact HEV7.out)).mono ?_
       rintro e w7 ⟨rfl, kq, rfl⟩
       rw [show decide (([⟨1, 3, 4, 5, []⟩, ⟨18, 0, 0, 0, [1, 191]⟩] : List Ev) = [⟨1, 3, 4, 5, []⟩, ⟨18, 0, 0, 0, [1, 191]⟩]) = true from decide_eq_true rfl])
    | fail)
  go_ret
  exact ⟨rfl, HO6.out.drewN _⟩
end Go.Proofs.Ytjmbhknokobnpaa
