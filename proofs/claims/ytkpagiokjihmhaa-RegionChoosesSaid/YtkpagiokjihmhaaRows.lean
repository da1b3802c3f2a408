/-
  No cell of these rows narrows 'for every input' (looked for: loops, veiled, ifaces, maps, wideKeys, modest, calm, conditions, laid).
  DERIVED. THE GIVEN ROWS OF THIS SEAT. 4 by the template 'for every input the law returns true; each argument reads behind the call as it read before'; 0 by the template 'total and deterministic' (their statements: YtkpagiokjihmhaaTotals.lean).
  GIVEN WITH THE SEED: the statements are not yours to turn. If you find one false, say at which input.
  Laid BY PROGRAM, IN A SANDBOX (cutbox-rows.mjs): the forced cells as the released guide's own fill.sh prints them over the translation 192c6a31c4ddfbc5… (all of the seat's roots in one cut). By AI agents, Wed Nov 11 2026. No macro, syntax, notation, axiom, sorry.
-/
import Derived.Test.YtkpagiokjihmhaaChecked
import GoSem.Claim
import GoSem.ClaimJoined
import GoSem.ClaimMapViews
import Derived.JoinedTies
import Derived.KernelRfl
namespace Go.Proofs.Ytkpagiokjihmhaa
/- THE CELL 'sum', in the pinned program and in every row, IS THE sha256 OF THE DUMP (.gsa) THAT YtkpagiokjihmhaaProg.lean LOADS. Nothing in Lean hashes anything: it is a label: what it is worth is what the hold of that sum in a sandbox is worth. -/
noncomputable def Try.pinned : Pinned := { name := "ytkpagiokjihmhaa", sum := "192c6a31c4ddfbc5c32d086dc3e7e9f190b104dc530610c9dd09688b4b309ca9", checked := Try.checked }
namespace Rows
def none {H : Type} : Left H := { results := [], args := [] }

/-- 'keelsonlaw30.ScriptTells': WHATEVER THE INPUT: true; the input reads as it did. -/
def scriptTellsSpec : ChangeSpec := { name := "scriptTells", fn := fun _ => fun
  | [d1, d2] => { results := [.lit (.bool true)], args := [d1, d2] }
  | _ => none }
def scriptTellsRow : OpenClaim := { program := "ytkpagiokjihmhaa", sum := "192c6a31c4ddfbc5c32d086dc3e7e9f190b104dc530610c9dd09688b4b309ca9", func := "keelson/keelsonlaw30.ScriptTells", spec := "scriptTells", unfollowed := true, recurses := true, apart := false }
def ScriptTellsSaid : Prop := scriptTellsRow.holds Try.pinned (OpenSpec.ofChange scriptTellsSpec)

/-- ITS FALSE NEIGHBOUR: 'it returns false'. Refute it at one input. -/
def scriptTellsWrong : ChangeSpec := { name := "scriptTells", fn := fun _ => fun
  | [d1, d2] => { results := [.lit (.bool false)], args := [d1, d2] }
  | _ => none }
def ScriptTellsWrongFalsely : Prop := scriptTellsRow.holds Try.pinned (OpenSpec.ofChange scriptTellsWrong)

/-- 'keelsonlaw9.RegionChooses': WHATEVER THE INPUT: true; the input reads as it did. -/
def regionChoosesSpec : ChangeSpec := { name := "regionChooses", fn := fun _ => fun
  | [d1, d2, d3, d4] => { results := [.lit (.bool true)], args := [d1, d2, d3, d4] }
  | _ => none }
def regionChoosesRow : OpenClaim := { program := "ytkpagiokjihmhaa", sum := "192c6a31c4ddfbc5c32d086dc3e7e9f190b104dc530610c9dd09688b4b309ca9", func := "keelson/keelsonlaw9.RegionChooses", spec := "regionChooses", unfollowed := true, recurses := true, apart := false }
def RegionChoosesSaid : Prop := regionChoosesRow.holds Try.pinned (OpenSpec.ofChange regionChoosesSpec)

/-- ITS FALSE NEIGHBOUR: 'it returns false'. Refute it at one input. -/
def regionChoosesWrong : ChangeSpec := { name := "regionChooses", fn := fun _ => fun
  | [d1, d2, d3, d4] => { results := [.lit (.bool false)], args := [d1, d2, d3, d4] }
  | _ => none }
def RegionChoosesWrongFalsely : Prop := regionChoosesRow.holds Try.pinned (OpenSpec.ofChange regionChoosesWrong)

/-- 'keelsonlaw15.WriterSpace': WHATEVER THE INPUT: true; the input reads as it did. -/
def writerSpaceSpec : ChangeSpec := { name := "writerSpace", fn := fun _ => fun
  | [d1, d2] => { results := [.lit (.bool true)], args := [d1, d2] }
  | _ => none }
def writerSpaceRow : OpenClaim := { program := "ytkpagiokjihmhaa", sum := "192c6a31c4ddfbc5c32d086dc3e7e9f190b104dc530610c9dd09688b4b309ca9", func := "keelson/keelsonlaw15.WriterSpace", spec := "writerSpace", unfollowed := true, recurses := true, apart := false }
def WriterSpaceSaid : Prop := writerSpaceRow.holds Try.pinned (OpenSpec.ofChange writerSpaceSpec)

/-- ITS FALSE NEIGHBOUR: 'it returns false'. Refute it at one input. -/
def writerSpaceWrong : ChangeSpec := { name := "writerSpace", fn := fun _ => fun
  | [d1, d2] => { results := [.lit (.bool false)], args := [d1, d2] }
  | _ => none }
def WriterSpaceWrongFalsely : Prop := writerSpaceRow.holds Try.pinned (OpenSpec.ofChange writerSpaceWrong)

/-- 'keelsonlaw15.WriterPlaces': WHATEVER THE INPUT: true; the input reads as it did. -/
def writerPlacesSpec : ChangeSpec := { name := "writerPlaces", fn := fun _ => fun
  | [d] => { results := [.lit (.bool true)], args := [d] }
  | _ => none }
def writerPlacesRow : OpenClaim := { program := "ytkpagiokjihmhaa", sum := "192c6a31c4ddfbc5c32d086dc3e7e9f190b104dc530610c9dd09688b4b309ca9", func := "keelson/keelsonlaw15.WriterPlaces", spec := "writerPlaces", unfollowed := true, recurses := true, apart := false }
def WriterPlacesSaid : Prop := writerPlacesRow.holds Try.pinned (OpenSpec.ofChange writerPlacesSpec)

/-- ITS FALSE NEIGHBOUR: 'it returns false'. Refute it at one input. -/
def writerPlacesWrong : ChangeSpec := { name := "writerPlaces", fn := fun _ => fun
  | [d] => { results := [.lit (.bool false)], args := [d] }
  | _ => none }
def WriterPlacesWrongFalsely : Prop := writerPlacesRow.holds Try.pinned (OpenSpec.ofChange writerPlacesWrong)

/- THE SECOND FORM. 'bulk': how many values and letters a reading holds, each counted each time it is reached (what is shared counts as often as it is met; a slice's spare places count too). A statement '..UptoSaid' is the law's where the arguments, and the package variables that the reading takes, are together of bulk at most 1048576: NARROWER than '..Said'. Prove '..Said' where nothing that the law and all that it calls make is longer than what came in: it says more and counts as full. Else prove '..UptoSaid'. A law counts once. -/
mutual
def uptoBulk {H : Type} : DataW H → Nat
  | .lit (.string bytes) => bytes.length + 1
  | .lit _ => 1
  | .nil => 1
  | .ptr d => uptoBulk d + 1
  | .slice elems spare => uptoBulkAll elems + uptoBulkAll spare + 1
  | .agg parts => uptoBulkAll parts + 1
  | .iface _ d => uptoBulk d + 1
  | .map entries => uptoBulkEntries entries + 1
  | .held _ => 1
def uptoBulkAll {H : Type} : List (DataW H) → Nat
  | [] => 0
  | d :: r => uptoBulk d + uptoBulkAll r
def uptoBulkEntries {H : Type} : List (Lit × DataW H) → Nat
  | [] => 0
  | x :: r => uptoBulkEntry x + uptoBulkEntries r
def uptoBulkEntry {H : Type} : Lit × DataW H → Nat
  | (.string bytes, d) => bytes.length + uptoBulk d + 1
  | (_, d) => uptoBulk d + 1
 end
def uptoSmall : (H : Type) → List (DataW H) → Bool := fun _ ds => decide (uptoBulkAll ds ≤ 1048576)
def OpenSpec.upto (s : _root_.Go.ChangeSpec) : _root_.Go.OpenSpec := { _root_.Go.OpenSpec.ofChange s with cond := some uptoSmall }

/-- 'keelsonlaw30.ScriptTells', WHERE WHAT IT READS IS OF BULK AT MOST 1048576: true; the input reads as it did. -/
def scriptTellsUptoRow : OpenClaim := { program := "ytkpagiokjihmhaa", sum := "192c6a31c4ddfbc5c32d086dc3e7e9f190b104dc530610c9dd09688b4b309ca9", func := "keelson/keelsonlaw30.ScriptTells", spec := "scriptTells", unfollowed := true, recurses := true, apart := false, narrowed := true }
def ScriptTellsUptoSaid : Prop := scriptTellsUptoRow.holds Try.pinned (OpenSpec.upto scriptTellsSpec)

/-- 'keelsonlaw9.RegionChooses', WHERE WHAT IT READS IS OF BULK AT MOST 1048576: true; the input reads as it did. -/
def regionChoosesUptoRow : OpenClaim := { program := "ytkpagiokjihmhaa", sum := "192c6a31c4ddfbc5c32d086dc3e7e9f190b104dc530610c9dd09688b4b309ca9", func := "keelson/keelsonlaw9.RegionChooses", spec := "regionChooses", unfollowed := true, recurses := true, apart := false, narrowed := true }
def RegionChoosesUptoSaid : Prop := regionChoosesUptoRow.holds Try.pinned (OpenSpec.upto regionChoosesSpec)

/-- 'keelsonlaw15.WriterSpace', WHERE WHAT IT READS IS OF BULK AT MOST 1048576: true; the input reads as it did. -/
def writerSpaceUptoRow : OpenClaim := { program := "ytkpagiokjihmhaa", sum := "192c6a31c4ddfbc5c32d086dc3e7e9f190b104dc530610c9dd09688b4b309ca9", func := "keelson/keelsonlaw15.WriterSpace", spec := "writerSpace", unfollowed := true, recurses := true, apart := false, narrowed := true }
def WriterSpaceUptoSaid : Prop := writerSpaceUptoRow.holds Try.pinned (OpenSpec.upto writerSpaceSpec)

/-- 'keelsonlaw15.WriterPlaces', WHERE WHAT IT READS IS OF BULK AT MOST 1048576: true; the input reads as it did. -/
def writerPlacesUptoRow : OpenClaim := { program := "ytkpagiokjihmhaa", sum := "192c6a31c4ddfbc5c32d086dc3e7e9f190b104dc530610c9dd09688b4b309ca9", func := "keelson/keelsonlaw15.WriterPlaces", spec := "writerPlaces", unfollowed := true, recurses := true, apart := false, narrowed := true }
def WriterPlacesUptoSaid : Prop := writerPlacesUptoRow.holds Try.pinned (OpenSpec.upto writerPlacesSpec)

end Rows
end Go.Proofs.Ytkpagiokjihmhaa
