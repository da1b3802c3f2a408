/- Contracts of head.Fits and the reference's HeadFits. Printed by mkfits.py. -/
import Derived.Test.YtcojleippbneoaaHeadB
import Derived.Test.YtcojleippbneoaaHeadR
set_option linter.unusedVariables false
set_option linter.unusedSimpArgs false
namespace Go.Kn
open Go Go.RowKit
/-- does what was read fit a place -/
def headFits (o : Option It) (s l pv m : Int) : Bool := match o with
  | none => false
  | some h => (h.k == s) && (h.c == l) && (h.v == pv) && decide (m ≤ h.b)
end Go.Kn
namespace Go.Proofs.Ytcojleippbneoaa
open Go Go.RowKit Go.Kn

set_option maxRecDepth 100000 in
set_option maxHeartbeats 4000000 in
theorem head_fits_any (A : Option Addr) (n c : Nat) (bs : List UInt8) (s off l pv m : Int) (w : World) (hi : Bys w A n c bs) (hn : n ≤ 65536) :
    Calls Try.prog 61 #[.slice A n c, .agg #[.int .i64 s, .int .i64 off, .int .i64 l, .int .i64 pv, .int .i64 m]] w fun e w' => e = .returned (.bool (headFits (decHead bs) s l pv m)) ∧ Only [] w w' := by
  have HI := Lib.hid hi
  clear hi
  go_enter Try.func61, Try.ntmps61
  go_wp2_with fail
  refine (head_dec_any A n c bs _ (by exact HI.out.alloc _) hn).mono ?_
  rintro e w1 ⟨rfl, hO1⟩
  have p0 := hO1.cell (p := ⟨w.heap.size, 0, none⟩) (v := .int .i64 s) (by simp) (by simp)
  have p2 := hO1.cell (p := ⟨w.heap.size, 2, none⟩) (v := .int .i64 l) (by simp) (by simp)
  have p3 := hO1.cell (p := ⟨w.heap.size, 3, none⟩) (v := .int .i64 pv) (by simp) (by simp)
  have p4 := hO1.cell (p := ⟨w.heap.size, 4, none⟩) (v := .int .i64 m) (by simp) (by simp)
  have hsz : w.heap.size < w1.heap.size := by have := hO1.size; simp at this; omega
  have HO1 := Lib.hid (((Only.refl [] w).alloc (.cells #[.int .i64 s, .int .i64 off, .int .i64 l, .int .i64 pv, .int .i64 m] 84)).trans' hO1)
  clear hO1
  cases hd : decHead bs with
  | none =>
    have HD := Lib.hid hd
    clear hd
    simp only [Option.getD_none, Option.isSome_none, It.vals]
    go_wp2
    go_ret
    exact ⟨by rw [HD.out]; rfl, HO1.out.alloc _⟩
  | some h =>
    obtain ⟨hk, hb, hc, hv⟩ := h
    have HD := Lib.hid hd
    clear hd
    simp only [Option.getD_some, Option.isSome_some, It.vals, if_true]
    go_wp2
    all_goals (go_ret; exact ⟨by rw [HD.out]; simp [headFits, *], HO1.out.alloc _⟩)

set_option maxRecDepth 100000 in
set_option maxHeartbeats 4000000 in
theorem ref_head_fits_any (A : Option Addr) (n c : Nat) (bs : List UInt8) (s off l pv m : Int) (w : World) (hi : Bys w A n c bs) (hn : n ≤ 65536) :
    Calls Try.prog 62 #[.slice A n c, .agg #[.int .i64 s, .int .i64 off, .int .i64 l, .int .i64 pv, .int .i64 m]] w fun e w' => e = .returned (.bool (headFits (decHead bs) s l pv m)) ∧ Only [] w w' := by
  have HI := Lib.hid hi
  clear hi
  go_enter Try.func62, Try.ntmps62
  go_wp2_with fail
  refine (ref_head_dec_any A n c bs _ (by exact HI.out.alloc _) hn).mono ?_
  rintro e w1 ⟨rfl, hO1⟩
  have p0 := hO1.cell (p := ⟨w.heap.size, 0, none⟩) (v := .int .i64 s) (by simp) (by simp)
  have p2 := hO1.cell (p := ⟨w.heap.size, 2, none⟩) (v := .int .i64 l) (by simp) (by simp)
  have p3 := hO1.cell (p := ⟨w.heap.size, 3, none⟩) (v := .int .i64 pv) (by simp) (by simp)
  have p4 := hO1.cell (p := ⟨w.heap.size, 4, none⟩) (v := .int .i64 m) (by simp) (by simp)
  have hsz : w.heap.size < w1.heap.size := by have := hO1.size; simp at this; omega
  have HO1 := Lib.hid (((Only.refl [] w).alloc (.cells #[.int .i64 s, .int .i64 off, .int .i64 l, .int .i64 pv, .int .i64 m] 84)).trans' hO1)
  clear hO1
  cases hd : decHead bs with
  | none =>
    have HD := Lib.hid hd
    clear hd
    simp only [Option.getD_none, Option.isSome_none, It.vals]
    go_wp2
    go_ret
    exact ⟨by rw [HD.out]; rfl, HO1.out.alloc _⟩
  | some h =>
    obtain ⟨hk, hb, hc, hv⟩ := h
    have HD := Lib.hid hd
    clear hd
    simp only [Option.getD_some, Option.isSome_some, It.vals, if_true]
    go_wp2
    all_goals (go_ret; exact ⟨by rw [HD.out]; simp [headFits, *], HO1.out.alloc _⟩)
end Go.Proofs.Ytcojleippbneoaa
