
/- Contracts of package row: Left, New, Clone, From, Bytes. -/
import Derived.Test.YtkpagiokjihmhaaLeaf
import Derived.Deep.QuietTactic
import Derived.BigQuiet
import Derived.StillTailTactics
namespace Go.Proofs.Ytkpagiokjihmhaa
open Go Go.RowKit Go.Kn

theorem still_tail {P : Program} {id : Nat} {Q : Exit → Act → World → Prop} {a : Act} {w : World} {l : List Oper} (n : Nat) (hm : P.follows .mixedOrders = true) (hB : Region.lexTailB .any l.toArray n = true)
    (h : wpStill P l.toArray w.drew (fun a' => wpList P l.toArray Q (l.drop n) a' w.drew) (l.take n) a) : (Code.region id l.toArray true).wp P Q a w :=
  wp_region_still_tail n hm hB h

theorem Try.infoU8 : (Try.prog.info? 5).map (fun i => (i.zero, i.size, i.bytes)) = some (some (.int .u8 0), 1, 1) := by kernel_rfl
theorem Try.infoInt : (Try.prog.info? 3).map (fun i => (i.zero, i.size, i.bytes)) = some (some (.int .i64 0), 1, 8) := by kernel_rfl

/-- make([]byte, n) -/
theorem make_bys (n : Nat) (hn : n ≤ 1000000) (w : World) : (Instr.makeSlice 23 (.int .i64 n) (.int .i64 n)).run Try.prog w = .ok (.slice (some ⟨w.heap.size, 0, none⟩) n n) (w.alloc (.cells (bvs (List.replicate n 0)).toArray 5)) := by
  obtain ⟨i0, hi, hz0, hz1, hz2⟩ := info_parts Try.infoU8
  have h := run_make (P := Try.prog) w 23 5 i0 (.int .u8 0) Try.underlying23 hi hz0 .i64 .i64 n n (by omega) (by omega) (by rw [hz2]; omega) (by omega)
  rw [h]
  have e : madeCells (Value.int IntKind.u8 0).cells ((n : Int).toNat * i0.size) = (bvs (List.replicate n 0)).toArray := by
    rw [hz1, Nat.mul_one]
    have := toList_madeCells_one (Value.int IntKind.u8 0) n
    rw [Int.toNat_natCast]
    have e2 : (madeCells (Value.int IntKind.u8 0).cells n).toList = bvs (List.replicate n 0) := by
      show (madeCells #[Value.int IntKind.u8 0] n).toList = _
      rw [this, bvs, List.map_replicate]
      rfl
    rw [← e2]
  rw [e]
  rfl

theorem left_any (p g k : Nat) (bs : List UInt8) (w : World) (h : RowAt w p g bs k) :
    Calls Try.prog 98 #[.pointer (some ⟨p, 0, none⟩)] w fun e w' => e = .returned (.int .i64 ((bs.length - k : Nat) : Int)) ∧ ∃ n, w' = w.drewN n := by
  obtain ⟨A, c, h0, h1, h2, h3⟩ := h.fb
  have hk := h.fk
  have hle := h.le
  have hmx := h.mx
  unfold maxLen at h2
  have e : ((bs.length : Nat) : Int) - (k : Int) = ((bs.length - k : Nat) : Int) := by omega
  have E := Lib.hid e
  clear e h3 h
  go_enter Try.func98, Try.ntmps98
  go_wp2
  go_quiet (fail)
  go_wp2
  go_ret
  exact ⟨by rw [← E.out]; rfl, _, rfl⟩

theorem left_nil (w : World) : Calls Try.prog 98 #[.pointer none] w fun e w' => e = .returned (.int .i64 0) ∧ w = w' := by
  go_enter Try.func98, Try.ntmps98
  go_wp2
  go_ret
  exact ⟨rfl, rfl⟩

/-- what makes a row: new blocks, the bytes, at place 0 -/
def MadeRow (w : World) (bs : List UInt8) (e : Ending) (w' : World) : Prop :=
  ∃ p g, e = .returned (.pointer (some ⟨p, 0, none⟩)) ∧ w.heap.size ≤ p ∧ w.heap.size ≤ g ∧ RowAt w' p g bs 0 ∧ Only [] w w'

/-- what makes new bytes -/
def MadeBys (w : World) (bs : List UInt8) (e : Ending) (w' : World) : Prop :=
  ∃ A c, e = .returned (.slice A bs.length c) ∧ bs.length ≤ c ∧ c ≤ maxLen ∧ (0 < bs.length → ∃ g, A = some ⟨g, 0, none⟩ ∧ w.heap.size ≤ g ∧ Own w' g (bvs bs)) ∧ Only [] w w'

theorem new_row_at (w : World) (cs : List Value) (bs : List UInt8) (g t : Nat) (hg : Own w g cs) (hcs : cs = bvs bs) (hb : bs.length ≤ 65536) (hpos : bs.length ≠ 0) :
    RowAt (w.alloc (.cells #[.slice (some ⟨g, 0, none⟩) bs.length bs.length, .int .i64 0] t)) w.heap.size g bs 0 := by
  subst hcs
  have hl := hg.lt
  refine ⟨fun _ e => by omega, ⟨_, bs.length, by simp, Nat.le_refl _, by unfold maxLen; omega, fun _ => rfl⟩, by simp, fun i => by simp, fun _ => hg.alloc _, by omega, hb, fun h => absurd h hpos⟩

set_option maxRecDepth 100000 in
theorem new_any (n : Int) (w : World) (hn : 0 ≤ n) (hm : n ≤ 65536) :
    Calls Try.prog 40 #[.int .i64 n] w (MadeRow w (List.replicate n.toNat 0)) := by
  obtain ⟨i0, hi, hz0, hz1, hz2⟩ := info_parts Try.infoU8
  obtain ⟨m, rfl⟩ := Int.eq_ofNat_of_zero_le hn
  go_enter Try.func40, Try.ntmps40
  go_wp2_with (first | (at_make; refine wpList_make_full _ rfl _ _ 23 rfl w.heap.size 5 i0 (.int .u8 0) 1 Try.underlying23 hi hz0 hz1 _ _ _ _ m rfl rfl rfl rfl (by rw [hz2]; omega) (by unfold maxLen; omega) (Nat.le_refl _) ?_; intro w1 hown hgrow))
  go_ret
  have e1 : (madeCells (Value.int IntKind.u8 0).cells (m * 1)).toList = bvs (List.replicate m 0) := by
    show (madeCells #[Value.int IntKind.u8 0] (m * 1)).toList = _
    rw [toList_madeCells_one, Nat.mul_one, bvs, List.map_replicate]
    rfl
  rw [e1] at hown
  obtain ⟨ho, hb, _, _, _⟩ := Own.of_own hown
  have hO : Only [] w w1 := (Only.refl _ _).grown hgrow (by simp)
  have hsz := hO.size
  have hl := ho.lt
  rw [Int.toNat_natCast]
  by_cases h0 : m = 0
  · subst h0
    refine ⟨w1.heap.size, w1.heap.size, rfl, hsz, hsz, ⟨by simp, ⟨some ⟨w.heap.size, 0, none⟩, 0, by simp, by simp, by simp [maxLen], by simp⟩, by simp, fun i => by simp, by simp, by simp, by simp, by simp⟩, hO.alloc _⟩
  · refine ⟨w1.heap.size, w.heap.size, rfl, hsz, Nat.le_refl _, ?_, hO.alloc _⟩
    have := new_row_at w1 _ (List.replicate m 0) w.heap.size 152 ho rfl (by simp; omega) (by simp; omega)
    simpa using this

set_option maxRecDepth 100000 in
theorem new_none (n : Int) (w : World) (hn : n < 0 ∨ 65536 < n) :
    Calls Try.prog 40 #[.int .i64 n] w fun e w' => e = .returned (.pointer none) ∧ w = w' := by
  by_cases h : n < 0
  · go_enter Try.func40, Try.ntmps40
    go_wp2
    go_ret
    exact ⟨rfl, rfl⟩
  · have h1 : 65536 < n := by omega
    go_enter Try.func40, Try.ntmps40
    go_wp2
    go_ret
    exact ⟨rfl, rfl⟩

set_option maxRecDepth 100000 in
/-- slices.Clone of bytes -/
theorem clone_any (A : Option Addr) (n c : Nat) (bs : List UInt8) (w : World) (h : Bys w A n c bs) (hb : n ≤ 1000000) :
    Calls Try.prog 86 #[.slice A n c] w (MadeBys w bs) := by
  obtain ⟨i0, hi, hz0, hz1, hz2⟩ := info_parts Try.infoU8
  have hlen := h.len
  rw [bvs_length] at hlen
  have hone := bvs_one bs
  rcases A with _ | ad
  · have hn : n = 0 := by
      rcases Nat.eq_zero_or_pos n with h0 | h0
      · exact h0
      · obtain ⟨g, o, h, _⟩ := h.at_ h0
        cases h
    subst hn
    obtain rfl : bs = [] := List.eq_nil_of_length_eq_zero hlen
    have hnil := fun (w : World) => Lib.run_eql_slice_nil (P := Try.prog) w 23 5 none 0 c 0 0 Try.underlying23
    go_enter Try.func86, Try.ntmps86
    go_wp2
    go_ret
    exact ⟨none, 0, rfl, by simp, by simp [maxLen], by simp, Only.refl _ _⟩
  · have hnil := fun (w : World) => Lib.run_eql_slice_nil (P := Try.prog) w 23 5 (some ad) n c 0 0 Try.underlying23
    go_enter Try.func86, Try.ntmps86
    go_wp2_with (first | (at_builtin; refine wpList_append_row1 rfl (.tmp 5) (.tmp 6) _ rfl w.heap.size 5 i0 _ 1 Try.underlying23 hi hz0 hz1 hz2 rfl _ 0 [] rfl (World.ownsRow_made w #[] 0 (Nat.le_refl _) (by unfold maxLen; omega) rfl) (some ad) n c (bvs bs) rfl (h.keep0 ((Only.refl _ _).alloc _)) hone (by unfold maxLen; omega) (by omega) (by simp) ?_; intro v' w1 hown hgrow hat))
    go_ret
    have hO : Only [] w w1 := ((Only.refl _ _).alloc _).grown hgrow (by intro k hk; injection hk with hk; right; rw [← hk]; exact Nat.le_refl _)
    simp only [Nat.zero_add, List.nil_append] at hown
    rcases hown.2 with ⟨rfl, h0⟩ | ⟨g, cap, cur, rfl, hb', hh, hn, hm, hs, ht⟩
    · subst h0
      obtain rfl : bs = [] := List.eq_nil_of_length_eq_zero hlen
      exact ⟨none, 0, rfl, by simp, by simp [maxLen], by simp, hO⟩
    · obtain ⟨ho, _⟩ := Own.of_own hown
      subst hlen
      exact ⟨_, cap, rfl, hn, hm, fun _ => ⟨g, rfl, hb', ho⟩, hO⟩

/-- a row made of new bytes: what 'box' lays -/
theorem row_of_bys {w w1 : World} {bs : List UInt8} {A : Option Addr} {c t : Nat} (hc : bs.length ≤ c) (hm : c ≤ maxLen) (hpos : 0 < bs.length → ∃ g, A = some ⟨g, 0, none⟩ ∧ w.heap.size ≤ g ∧ Own w1 g (bvs bs)) (hO : Only [] w w1) (hb : bs.length ≤ 65536) :
    MadeRow w bs (.returned (.pointer (some ⟨w1.heap.size, 0, none⟩))) (w1.alloc (.cells #[.slice A bs.length c, .int .i64 0] t)) := by
  have hsz := hO.size
  rcases Nat.eq_zero_or_pos bs.length with h0 | h0
  · exact ⟨w1.heap.size, w1.heap.size, rfl, hsz, hsz, ⟨by omega, ⟨A, c, by simp, hc, hm, by omega⟩, by simp, fun i => by simp, by omega, by omega, hb, fun _ => rfl⟩, hO.alloc _⟩
  · obtain ⟨g, rfl, hg, ho⟩ := hpos h0
    have hl := ho.lt
    exact ⟨w1.heap.size, g, rfl, hsz, hg, ⟨fun _ => by omega, ⟨_, c, by simp, hc, hm, fun _ => rfl⟩, by simp, fun i => by simp, fun _ => ho.alloc _, by omega, hb, by omega⟩, hO.alloc _⟩

set_option maxRecDepth 100000 in
theorem from_any (A : Option Addr) (n c : Nat) (bs : List UInt8) (w : World) (h : Bys w A n c bs) (hb : n ≤ 65536) :
    Calls Try.prog 49 #[.slice A n c] w (MadeRow w bs) := by
  have hlen := h.len
  rw [bvs_length] at hlen
  subst hlen
  go_enter Try.func49, Try.ntmps49
  go_wp2_with (go_at_call 86; refine (clone_any A bs.length c bs _ h (by omega)).mono ?_; rintro e w1 ⟨A', c', rfl, hc, hm, hpos, hO⟩)
  go_ret
  exact row_of_bys hc hm hpos hO hb

set_option maxRecDepth 100000 in
theorem from_none (A : Option Addr) (n c : Nat) (w : World) (hb : 65536 < n) :
    Calls Try.prog 49 #[.slice A n c] w fun e w' => e = .returned (.pointer none) ∧ w = w' := by
  go_enter Try.func49, Try.ntmps49
  go_wp2
  go_ret
  exact ⟨rfl, rfl⟩

theorem row_bys {w : World} {p g k : Nat} {bs : List UInt8} (h : RowAt w p g bs k) : ∃ A c, w.cell? ⟨p, 0, none⟩ = some (.slice A bs.length c) ∧ Bys w A bs.length c bs ∧ (0 < bs.length → A = some ⟨g, 0, none⟩) := by
  obtain ⟨A, c, h0, h1, h2, h3⟩ := h.fb
  refine ⟨A, c, h0, ⟨by simp, h1, h2, fun hn => ?_⟩, h3⟩
  refine ⟨g, 0, h3 hn, fun i hi => ?_⟩
  rw [Nat.zero_add]
  exact (h.own hn).cell i hi

theorem bytes_any (p g k : Nat) (bs : List UInt8) (w : World) (h : RowAt w p g bs k) :
    Calls Try.prog 43 #[.pointer (some ⟨p, 0, none⟩)] w (MadeBys w bs) := by
  obtain ⟨A, c, h0, h1, h2⟩ := row_bys h
  have hmx := h.mx
  go_enter Try.func43, Try.ntmps43
  go_wp2_with (go_at_call 86; refine (clone_any A bs.length c bs _ h1 (by omega)).mono ?_; rintro e w1 ⟨A', c', rfl, hc, hm, hpos, hO⟩)
  go_ret
  exact ⟨A', c', rfl, hc, hm, hpos, hO⟩

theorem bytes_nil (w : World) : Calls Try.prog 43 #[.pointer none] w (MadeBys w []) := by
  go_enter Try.func43, Try.ntmps43
  go_wp2
  go_ret
  exact ⟨none, 0, rfl, by simp, by simp [maxLen], by simp, Only.refl _ _⟩
end Go.Proofs.Ytkpagiokjihmhaa
