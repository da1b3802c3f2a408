/- Claim ItemReads. -/
import Derived.Test.YtcojleippbneoaaLaw6A
import Derived.Test.YtcojleippbneoaaItemE
import Derived.Test.YtcojleippbneoaaFrameI
set_option linter.unusedVariables false
namespace Go.Proofs.Ytcojleippbneoaa.itemReads
open Go Go.RowKit Go.Kn Go.ChangeShapes Go.WideShapes Go.ChangeAt

set_option maxRecDepth 100000 in
set_option maxHeartbeats 4000000 in
theorem reads (A : Option Addr) (n c : Nat) (bs : List UInt8) (w : World) (hi : Bys w A n c bs) :
    Calls Try.prog 8 #[.slice A n c] w fun e w' => e = .returned (.bool true) ∧ Only [] w w' := by
  have hle := hi.le
  have hcm := hi.cm
  unfold maxLen at hcm
  have HI := Lib.hid hi
  clear hi
  by_cases h20 : n ≤ 100
  · have hd20 : decide (100 < (n : Int)) = false := by simp; omega
    go_enter Try.func8, Try.ntmps8
    go_wp2_with fail
    refine (item_dec_all A n c bs _ (by exact HI.out)).mono ?_
    rintro e w3 ⟨A3, c3, rfl, hb3, hn3, hO3⟩
    generalize hbs : (decItems bs).getD [] = ls at *
    generalize her : (if (decItems bs).isSome = true then (0 : Int) else 2) = er at *
    have HBS := Lib.hid hbs
    have HER := Lib.hid her
    clear hbs her
    have HO3 := Lib.hid hO3
    have HB3 := Lib.hid hb3
    clear hO3 hb3 hn3
    go_wp2_with fail
    refine (ref_item_of_any A n c bs _ (by exact HI.out.keep0 HO3.out)).mono ?_
    rintro e w4 ⟨A4, c4, rfl, hb4, hn4, hO4⟩
    rw [HBS.out] at hb4
    rw [HBS.out, HER.out]
    have HO4 := Lib.hid (HO3.out.trans' hO4)
    have HB4 := Lib.hid hb4
    have HB34 := Lib.hid (HB3.out.keep0 hO4)
    clear hO4 hb4 hn4
    go_wp2_with fail
    refine (alike_items_any A3 ls.length c3 ls A4 ls.length c4 ls _ (by exact HB34.out) (by exact HB4.out)).mono ?_
    rintro e w5 ⟨rfl, k5, rfl⟩
    have hdd : decide (ls = ls) = true := by simp
    rw [hdd]
    clear hdd
    go_wp2_with fail
    refine (awake6 _).mono ?_
    rintro e w6 ⟨rfl, hO6⟩
    have HO6 := Lib.hid ((HO4.out.drewN k5).trans' hO6)
    go_wp2
    go_ret
    exact ⟨rfl, HO6.out⟩
  · have hd20 : decide (100 < (n : Int)) = true := by simp; omega
    go_enter Try.func8, Try.ntmps8
    go_wp2_with fail
    refine (awake6 _).mono ?_
    rintro e w6 ⟨rfl, hO6⟩
    go_wp2
    go_ret
    exact ⟨rfl, hO6⟩

theorem walk (a0 : Option Addr) (len0 cap0 : Nat) (z0 : List Int) (w : World) (w0 : IsRow .u8 w a0 len0 cap0 z0) : Calls Try.prog 8 #[.slice a0 len0 cap0] w fun e w' => e = .returned (.bool true) ∧ Below w.heap.size w w' := by
  obtain ⟨bs, hb⟩ := w0.bys
  refine (reads a0 len0 cap0 bs w hb).mono ?_
  rintro e w' ⟨rfl, hO⟩
  exact ⟨rfl, hO.below0⟩
-- FRAME: walk : (a0 : Option Addr) (len0 cap0 : Nat) (z0 : List Int) (w : World) (w0 : IsRow .u8 w a0 len0 cap0 z0) : Calls Try.prog 8 #[.slice a0 len0 cap0] w fun e w' => e = .returned (.bool true) ∧ Below w.heap.size w w'

set_option maxRecDepth 100000 in
theorem lifted (os : Os) (started : os.Started) (H : Type) (enc : TypeId × Value → H) :
    ReturnsInHanded {} Try.checked os 8 .any (Rows.itemReadsSpec.pre6 enc Try.prog Try.f8 Rows.itemReadsRow.domain false) (Rows.itemReadsSpec.post enc Try.prog Try.f8 false true false false) := by
  refine returnsInHanded_of_change (C := Try.checked) own started (by kernel_rfl) Try.func8
    (ChangeSpec.witness6 (enc := enc) (C := Try.checked) false ⟨#[], #[.slice none 0 0], []⟩ 8 (by kernel_rfl) (by kernel_rfl) (by kernel_rfl) (by kernel_rfl)) ?_
  intro W base args ds gs before hval0 hW hcnd _
  have hval : ∀ (j : Nat) t v, Try.f8.params[j]? = some t → args[j]? = some v → Value.okWide Try.prog W .any base t v := hval0
  have hW' := hW
  obtain ⟨p, q, hA0, hV, rfl, hfz, hnd⟩ := hW
  have hA : DataW.TrodAll enc Try.prog W 0 (fun _ => true) true Try.f8.params.toList args.toList ds p := hA0
  rw [Try.params8] at hA hval
  obtain ⟨v0, vs0, d0, ds0, p0, q0, hargs, rfl, rfl, h0, r0⟩ := trodAll_cons hA
  obtain ⟨rfl, rfl, rfl⟩ := trodAll_nil r0
  obtain rfl : args = #[v0] := by cases args; simp_all
  obtain ⟨rfl, rfl⟩ := trodVars_none hV
  obtain ⟨a0, len0, cap0, rfl⟩ := okWide_slice Try.underlying29 (hval 0 29 v0 rfl rfl)
  have k0 := h0
  have lt0 : ∀ x ∈ p0, x.block < W.heap.size := by obtain ⟨m, hm⟩ := k0; exact DataW.trod_lt m _ _ _ hm
  obtain ⟨z0, w0⟩ : ∃ zs, IsRow .u8 W a0 len0 cap0 zs := by
    obtain ⟨fuel, hf⟩ := h0
    rcases open_ints Try.underlying29 Try.underlying5 (by kernel_rfl) hf with ⟨hcs, _⟩ | ⟨x, l, c, zs, hcs, _, hl, hm, hz, _, hcell, hwz⟩
    · simp [Value.cells] at hcs
      obtain ⟨rfl, rfl, rfl⟩ := hcs
      exact ⟨[], .inl ⟨rfl, rfl, rfl, rfl⟩⟩
    · simp [Value.cells] at hcs
      obtain ⟨rfl, rfl, rfl⟩ := hcs
      exact ⟨zs, .inr ⟨_, rfl, hl, hm, by simpa using hz, hcell, hwz⟩⟩
  clear hA0 hval0
  refine (walk a0 len0 cap0 z0 W w0).mono fun e W' ⟨he, bel⟩ => ?_
  subst he
  exact ⟨_, rfl, _, _, _, [], _, [], hW', trodAll_mk1 (shut_bool Try.underlying4 _), (trodAll_cons_mk (Below.trod laidOut (by kernel_rfl) (of_decide_eq_true (by kernel_rfl)) k0 bel lt0) trodAll_mk0), rfl, bel.frame _, fun h => by cases h⟩

theorem over : Rows.itemReadsRow.holds Try.pinned (OpenSpec.ofChange Rows.itemReadsSpec) :=
  OpenClaim.holds_of_wide 8 Try.f8 rfl rfl rfl rfl rfl rfl rfl ⟨rfl, rfl, rfl, rfl, rfl⟩ rfl rfl rfl rfl rfl (by kernel_rfl) Try.func8 (by kernel_rfl)
    (of_decide_eq_true (by kernel_rfl)) (by unfold Func.isWrapper; first | (rw [if_pos (by decide +kernel)]; kernel_rfl) | (rw [if_neg (by decide +kernel)]; exact ⟨rfl, rfl⟩))
    (fun os started H enc _ => lifted os started H enc)

theorem proved : Rows.ItemReadsSaid := over

end Go.Proofs.Ytcojleippbneoaa.itemReads
