
/- The reference's unbits and RegionOf. Printed by mkregm.py. -/
import Derived.Test.YtkpagiokjihmhaaRegK
import Derived.Test.YtkpagiokjihmhaaRegL
set_option linter.unusedVariables false
set_option linter.unusedSimpArgs false
namespace Go.Kn
open Go Go.RowKit
/-- amid the reference's reading of a region: the row, the box that is filled, the box of the answer, the device's numbers -/
structure DecR (w0 w : World) (p g f z c k : Nat) (b s l : Int) (bs : List UInt8) (cs : List Value) : Prop where
  row : RowAt w p g bs k
  box : Own w f cs
  out : Own w z [.int .i64 0, .int .i64 0, .int .i64 0, .int .i64 0, .int .i64 0, .int .i64 0, .int .i64 0, .int .i64 0, .int .i64 0, .int .i64 0, .int .i64 0, .slice none 0 0, .slice none 0 0, .slice none 0 0]
  cfg : GeoAt w c b s l
  only : Only [] w0 w
  pf : p ≠ f
  gf : g ≠ f
  pz : p ≠ z
  pc : p ≠ c
  fz : f ≠ z
  fc : f ≠ c
  hp : w0.heap.size ≤ p
  hf : w0.heap.size ≤ f
  hz : w0.heap.size ≤ z
section
variable {w0 w w' : World} {p g f z c k k' : Nat} {b s l : Int} {bs : List UInt8} {cs : List Value}
theorem GeoAt.keepP {S : List Nat} (h : GeoAt w p b s l) (hO : Only S w w') (hp : p ∉ S) : GeoAt w' p b s l := ⟨hO.cell h.c0 hp, hO.cell h.c1 hp, hO.cell h.c2 hp⟩
theorem DecR.keep {S : List Nat} (h : DecR w0 w p g f z c k b s l bs cs) (hO : Only S w w') (h1 : p ∉ S) (h2 : g ∉ S) (h3 : f ∉ S) (h4 : z ∉ S) (h5 : c ∉ S) (h6 : ∀ i ∈ S, w0.heap.size ≤ i) : DecR w0 w' p g f z c k b s l bs cs :=
  ⟨h.row.keep hO h1 h2, h.box.keep hO h3, h.out.keep hO h4, h.cfg.keepP hO h5, h.only.trans hO (fun i hi => .inr (h6 i hi)), h.pf, h.gf, h.pz, h.pc, h.fz, h.fc, h.hp, h.hf, h.hz⟩
theorem DecR.keep0 (h : DecR w0 w p g f z c k b s l bs cs) (hO : Only [] w w') : DecR w0 w' p g f z c k b s l bs cs := h.keep hO (by simp) (by simp) (by simp) (by simp) (by simp) (by simp)
theorem DecR.drew (h : DecR w0 w p g f z c k b s l bs cs) : DecR w0 w.drew p g f z c k b s l bs cs := h.keep0 ((Only.refl _ _).drew)
theorem DecR.got (h : DecR w0 w p g f z c k b s l bs cs) (hr : RowAt w' p g bs k') (hO : Only [p] w w') : DecR w0 w' p g f z c k' b s l bs cs :=
  ⟨hr, h.box.keep hO (by simpa using Ne.symm h.pf), h.out.keep hO (by simpa using Ne.symm h.pz), h.cfg.keepP hO (by simpa using Ne.symm h.pc), h.only.trans hO (by simpa using h.hp), h.pf, h.gf, h.pz, h.pc, h.fz, h.fc, h.hp, h.hf, h.hz⟩
theorem DecR.put (h : DecR w0 w p g f z c k b s l bs cs) (i : Nat) (u : Value) : DecR w0 (w.setCell ⟨f, i, none⟩ u) p g f z c k b s l bs (cs.set i u) :=
  ⟨h.row.far (Ne.symm h.pf) (Ne.symm h.gf) u, h.box.set i u, h.out.far h.fz u, h.cfg.keepP ((Only.refl [f] w).set (by simp) u) (by simpa using Ne.symm h.fc), h.only.set (.inr h.hf) u, h.pf, h.gf, h.pz, h.pc, h.fz, h.fc, h.hp, h.hf, h.hz⟩
end
end Go.Kn
namespace Go.Proofs.Ytkpagiokjihmhaa
open Go Go.RowKit Go.Kn

end Go.Proofs.Ytkpagiokjihmhaa
