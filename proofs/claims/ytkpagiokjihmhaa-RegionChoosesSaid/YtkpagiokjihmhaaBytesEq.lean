
/- Contract of bytes.Equal. -/
import Derived.Test.YtkpagiokjihmhaaRowA
import Derived.Laws.BytesString
set_option linter.unusedVariables false
namespace Go.Kn
open Go Go.RowKit
theorem push_all : ∀ (bs : List UInt8) (s : ByteArray), (bs.map fun c => (c.toNat : Int)).foldl (fun r n => r.push (UInt8.ofNat n.toNat)) s = ⟨(s.data.toList ++ bs).toArray⟩
  | [], s => by
    simp
  | c :: r, s => by
    simp only [List.map_cons, List.foldl_cons]
    rw [push_all r]
    have e : UInt8.ofNat (c.toNat : Int).toNat = c := by
      apply UInt8.toNat_inj.1
      rw [UInt8.toNat_ofNat', Int.toNat_natCast]
      exact Nat.mod_eq_of_lt c.toNat_lt
    rw [e]
    have e2 : (s.push c).data.toList = s.data.toList ++ [c] := by
      show (s.data.push c).toList = _
      simp
    rw [e2]
    simp
theorem run_bytes_str {P : Program} (w : World) (src dst e : TypeId) (hs : P.underlying src = some (.slice e)) (he : P.underlying e = some (.int .u8)) (hd : P.underlying dst = some .string) (A : Option Addr) (n c : Nat) (bs : List UInt8) (h : Bys w A n c bs) :
    (convert src dst (.slice A n c)).run P w = .ok (.string ⟨bs.toArray⟩) w := by
  rw [run_convert_bytes_string w src dst e A n c hs he hd]
  have hl := h.len
  rw [bvs_length] at hl
  rcases A with _ | a
  · have h0 : n = 0 := by
      rcases Nat.eq_zero_or_pos n with h0 | h0
      · exact h0
      · obtain ⟨g, o, h1, _⟩ := h.at_ h0
        cases h1
    subst h0
    obtain rfl : bs = [] := List.eq_nil_of_length_eq_zero hl
    simp [Conv.bytesToString]
    rfl
  · have hload : (loadCells a n).run P w = .ok ((bs.map fun c => (c.toNat : Int)).map (Value.int .u8)).toArray w := by
      have h1 := run_loadCells_list (P := P) w a (bvs bs) (h.news rfl)
      rw [bvs_length, hl] at h1
      rw [h1]
      simp [bvs]
    rw [run_bytesToString w a n c _ hload, push_all]
    rfl
end Go.Kn
namespace Go.Proofs.Ytkpagiokjihmhaa
open Go Go.RowKit Go.Kn
theorem bytes_equal_any (A : Option Addr) (n c : Nat) (xs : List UInt8) (B : Option Addr) (m d : Nat) (ys : List UInt8) (w : World) (hx : Bys w A n c xs) (hy : Bys w B m d ys) :
    Calls Try.prog 52 #[.slice A n c, .slice B m d] w fun e w' => e = .returned (.bool (decide (xs = ys))) ∧ w = w' := by
  have h1 := run_bytes_str (P := Try.prog) w 23 9 5 Try.underlying23 Try.underlying5 Try.underlying9 A n c xs hx
  have h2 := run_bytes_str (P := Try.prog) w 23 9 5 Try.underlying23 Try.underlying5 Try.underlying9 B m d ys hy
  clear hx hy
  go_enter Try.func52, Try.ntmps52
  go_wp2
  go_ret
  refine ⟨?_, rfl⟩
  have e : (xs == ys) = decide (xs = ys) := by rw [Bool.eq_iff_iff]; simp
  rw [← e]
  rfl
end Go.Proofs.Ytkpagiokjihmhaa
