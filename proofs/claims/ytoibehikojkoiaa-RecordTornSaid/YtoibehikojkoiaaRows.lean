/-
  No cell of these rows narrows 'for every input' (looked for: loops, veiled, ifaces, maps, wideKeys, modest, calm, conditions, laid).
  DERIVED. THE GIVEN ROWS OF THIS SEAT. 8 by the template 'for every input the law returns true; each argument reads behind the call as it read before'; 0 by the template 'total and deterministic' (their statements: YtoibehikojkoiaaTotals.lean).
  GIVEN WITH THE SEED: the statements are not yours to turn. If you find one false, say at which input.
  Laid BY PROGRAM, IN A SANDBOX (cutbox-rows.mjs): the forced cells as the released guide's own fill.sh prints them over the translation 02e7172530b737e3… (all of the seat's roots in one cut). By AI agents, Wed Nov 11 2026. No macro, syntax, notation, axiom, sorry.
-/
import Derived.Test.YtoibehikojkoiaaChecked
import GoSem.Claim
import GoSem.ClaimJoined
import GoSem.ClaimMapViews
import Derived.JoinedTies
import Derived.KernelRfl
namespace Go.Proofs.Ytoibehikojkoiaa
/- THE CELL 'sum', in the pinned program and in every row, IS THE sha256 OF THE DUMP (.gsa) THAT YtoibehikojkoiaaProg.lean LOADS. Nothing in Lean hashes anything: it is a label: what it is worth is what the hold of that sum in a sandbox is worth. -/
noncomputable def Try.pinned : Pinned := { name := "ytoibehikojkoiaa", sum := "02e7172530b737e31a68986880771c9ea1c031dafe175f8537976df208e41a97", checked := Try.checked }
namespace Rows
def none {H : Type} : Left H := { results := [], args := [] }

/-- 'keelsonlaw9.RegionChooses': WHATEVER THE INPUT: true; the input reads as it did. -/
def regionChoosesSpec : ChangeSpec := { name := "regionChooses", fn := fun _ => fun
  | [d1, d2, d3, d4] => { results := [.lit (.bool true)], args := [d1, d2, d3, d4] }
  | _ => none }
def regionChoosesRow : OpenClaim := { program := "ytoibehikojkoiaa", sum := "02e7172530b737e31a68986880771c9ea1c031dafe175f8537976df208e41a97", func := "keelson/keelsonlaw9.RegionChooses", spec := "regionChooses", unfollowed := true, recurses := true, apart := false }
def RegionChoosesSaid : Prop := regionChoosesRow.holds Try.pinned (OpenSpec.ofChange regionChoosesSpec)

/-- ITS FALSE NEIGHBOUR: 'it returns false'. Refute it at one input. -/
def regionChoosesWrong : ChangeSpec := { name := "regionChooses", fn := fun _ => fun
  | [d1, d2, d3, d4] => { results := [.lit (.bool false)], args := [d1, d2, d3, d4] }
  | _ => none }
def RegionChoosesWrongFalsely : Prop := regionChoosesRow.holds Try.pinned (OpenSpec.ofChange regionChoosesWrong)

/-- 'keelsonlaw7.RecordTells': WHATEVER THE INPUT: true; the input reads as it did. -/
def recordTellsSpec : ChangeSpec := { name := "recordTells", fn := fun _ => fun
  | [d] => { results := [.lit (.bool true)], args := [d] }
  | _ => none }
def recordTellsRow : OpenClaim := { program := "ytoibehikojkoiaa", sum := "02e7172530b737e31a68986880771c9ea1c031dafe175f8537976df208e41a97", func := "keelson/keelsonlaw7.RecordTells", spec := "recordTells", unfollowed := true, recurses := true, apart := false }
def RecordTellsSaid : Prop := recordTellsRow.holds Try.pinned (OpenSpec.ofChange recordTellsSpec)

/-- ITS FALSE NEIGHBOUR: 'it returns false'. Refute it at one input. -/
def recordTellsWrong : ChangeSpec := { name := "recordTells", fn := fun _ => fun
  | [d] => { results := [.lit (.bool false)], args := [d] }
  | _ => none }
def RecordTellsWrongFalsely : Prop := recordTellsRow.holds Try.pinned (OpenSpec.ofChange recordTellsWrong)

/-- 'keelsonlaw7.RecordReads': WHATEVER THE INPUT: true; the input reads as it did. -/
def recordReadsSpec : ChangeSpec := { name := "recordReads", fn := fun _ => fun
  | [d] => { results := [.lit (.bool true)], args := [d] }
  | _ => none }
def recordReadsRow : OpenClaim := { program := "ytoibehikojkoiaa", sum := "02e7172530b737e31a68986880771c9ea1c031dafe175f8537976df208e41a97", func := "keelson/keelsonlaw7.RecordReads", spec := "recordReads", unfollowed := true, recurses := true, apart := false }
def RecordReadsSaid : Prop := recordReadsRow.holds Try.pinned (OpenSpec.ofChange recordReadsSpec)

/-- ITS FALSE NEIGHBOUR: 'it returns false'. Refute it at one input. -/
def recordReadsWrong : ChangeSpec := { name := "recordReads", fn := fun _ => fun
  | [d] => { results := [.lit (.bool false)], args := [d] }
  | _ => none }
def RecordReadsWrongFalsely : Prop := recordReadsRow.holds Try.pinned (OpenSpec.ofChange recordReadsWrong)

/-- 'keelsonlaw7.RecordBack': WHATEVER THE INPUT: true; the input reads as it did. -/
def recordBackSpec : ChangeSpec := { name := "recordBack", fn := fun _ => fun
  | [d1, d2, d3, d4] => { results := [.lit (.bool true)], args := [d1, d2, d3, d4] }
  | _ => none }
def recordBackRow : OpenClaim := { program := "ytoibehikojkoiaa", sum := "02e7172530b737e31a68986880771c9ea1c031dafe175f8537976df208e41a97", func := "keelson/keelsonlaw7.RecordBack", spec := "recordBack", unfollowed := true, recurses := true, apart := false }
def RecordBackSaid : Prop := recordBackRow.holds Try.pinned (OpenSpec.ofChange recordBackSpec)

/-- ITS FALSE NEIGHBOUR: 'it returns false'. Refute it at one input. -/
def recordBackWrong : ChangeSpec := { name := "recordBack", fn := fun _ => fun
  | [d1, d2, d3, d4] => { results := [.lit (.bool false)], args := [d1, d2, d3, d4] }
  | _ => none }
def RecordBackWrongFalsely : Prop := recordBackRow.holds Try.pinned (OpenSpec.ofChange recordBackWrong)

/-- 'keelsonlaw7.RecordSpoilt': WHATEVER THE INPUT: true; the input reads as it did. -/
def recordSpoiltSpec : ChangeSpec := { name := "recordSpoilt", fn := fun _ => fun
  | [d1, d2, d3, d4, d5, d6] => { results := [.lit (.bool true)], args := [d1, d2, d3, d4, d5, d6] }
  | _ => none }
def recordSpoiltRow : OpenClaim := { program := "ytoibehikojkoiaa", sum := "02e7172530b737e31a68986880771c9ea1c031dafe175f8537976df208e41a97", func := "keelson/keelsonlaw7.RecordSpoilt", spec := "recordSpoilt", unfollowed := true, recurses := true, apart := false }
def RecordSpoiltSaid : Prop := recordSpoiltRow.holds Try.pinned (OpenSpec.ofChange recordSpoiltSpec)

/-- ITS FALSE NEIGHBOUR: 'it returns false'. Refute it at one input. -/
def recordSpoiltWrong : ChangeSpec := { name := "recordSpoilt", fn := fun _ => fun
  | [d1, d2, d3, d4, d5, d6] => { results := [.lit (.bool false)], args := [d1, d2, d3, d4, d5, d6] }
  | _ => none }
def RecordSpoiltWrongFalsely : Prop := recordSpoiltRow.holds Try.pinned (OpenSpec.ofChange recordSpoiltWrong)

/-- 'keelsonlaw7.RecordTorn': WHATEVER THE INPUT: true; the input reads as it did. -/
def recordTornSpec : ChangeSpec := { name := "recordTorn", fn := fun _ => fun
  | [d1, d2, d3, d4] => { results := [.lit (.bool true)], args := [d1, d2, d3, d4] }
  | _ => none }
def recordTornRow : OpenClaim := { program := "ytoibehikojkoiaa", sum := "02e7172530b737e31a68986880771c9ea1c031dafe175f8537976df208e41a97", func := "keelson/keelsonlaw7.RecordTorn", spec := "recordTorn", unfollowed := true, recurses := true, apart := false }
def RecordTornSaid : Prop := recordTornRow.holds Try.pinned (OpenSpec.ofChange recordTornSpec)

/-- ITS FALSE NEIGHBOUR: 'it returns false'. Refute it at one input. -/
def recordTornWrong : ChangeSpec := { name := "recordTorn", fn := fun _ => fun
  | [d1, d2, d3, d4] => { results := [.lit (.bool false)], args := [d1, d2, d3, d4] }
  | _ => none }
def RecordTornWrongFalsely : Prop := recordTornRow.holds Try.pinned (OpenSpec.ofChange recordTornWrong)

/-- 'keelsonlaw15.WriterSpace': WHATEVER THE INPUT: true; the input reads as it did. -/
def writerSpaceSpec : ChangeSpec := { name := "writerSpace", fn := fun _ => fun
  | [d1, d2] => { results := [.lit (.bool true)], args := [d1, d2] }
  | _ => none }
def writerSpaceRow : OpenClaim := { program := "ytoibehikojkoiaa", sum := "02e7172530b737e31a68986880771c9ea1c031dafe175f8537976df208e41a97", func := "keelson/keelsonlaw15.WriterSpace", spec := "writerSpace", unfollowed := true, recurses := true, apart := false }
def WriterSpaceSaid : Prop := writerSpaceRow.holds Try.pinned (OpenSpec.ofChange writerSpaceSpec)

/-- ITS FALSE NEIGHBOUR: 'it returns false'. Refute it at one input. -/
def writerSpaceWrong : ChangeSpec := { name := "writerSpace", fn := fun _ => fun
  | [d1, d2] => { results := [.lit (.bool false)], args := [d1, d2] }
  | _ => none }
def WriterSpaceWrongFalsely : Prop := writerSpaceRow.holds Try.pinned (OpenSpec.ofChange writerSpaceWrong)

/-- 'keelsonlaw15.WriterPlaces': WHATEVER THE INPUT: true; the input reads as it did. -/
def writerPlacesSpec : ChangeSpec := { name := "writerPlaces", fn := fun _ => fun
  | [d] => { results := [.lit (.bool true)], args := [d] }
  | _ => none }
def writerPlacesRow : OpenClaim := { program := "ytoibehikojkoiaa", sum := "02e7172530b737e31a68986880771c9ea1c031dafe175f8537976df208e41a97", func := "keelson/keelsonlaw15.WriterPlaces", spec := "writerPlaces", unfollowed := true, recurses := true, apart := false }
def WriterPlacesSaid : Prop := writerPlacesRow.holds Try.pinned (OpenSpec.ofChange writerPlacesSpec)

/-- ITS FALSE NEIGHBOUR: 'it returns false'. Refute it at one input. -/
def writerPlacesWrong : ChangeSpec := { name := "writerPlaces", fn := fun _ => fun
  | [d] => { results := [.lit (.bool false)], args := [d] }
  | _ => none }
def WriterPlacesWrongFalsely : Prop := writerPlacesRow.holds Try.pinned (OpenSpec.ofChange writerPlacesWrong)

/- THE SECOND FORM. 'bulk': how many values and letters a reading holds, each counted each time it is reached (what is shared counts as often as it is met; a slice's spare places count too). A statement '..UptoSaid' is the law's where the arguments, and the package variables that the reading takes, are together of bulk at most 1048576: NARROWER than '..Said'. Prove '..Said' where nothing that the law and all that it calls make is longer than what came in: it says more and counts as full. Else prove '..UptoSaid'. A law counts once. -/
mutual
def uptoBulk {H : Type} : DataW H → Nat
  | .lit (.string bytes) => bytes.length + 1
  | .lit _ => 1
  | .nil => 1
  | .ptr d => uptoBulk d + 1
  | .slice elems spare => uptoBulkAll elems + uptoBulkAll spare + 1
  | .agg parts => uptoBulkAll parts + 1
  | .iface _ d => uptoBulk d + 1
  | .map entries => uptoBulkEntries entries + 1
  | .held _ => 1
def uptoBulkAll {H : Type} : List (DataW H) → Nat
  | [] => 0
  | d :: r => uptoBulk d + uptoBulkAll r
def uptoBulkEntries {H : Type} : List (Lit × DataW H) → Nat
  | [] => 0
  | x :: r => uptoBulkEntry x + uptoBulkEntries r
def uptoBulkEntry {H : Type} : Lit × DataW H → Nat
  | (.string bytes, d) => bytes.length + uptoBulk d + 1
  | (_, d) => uptoBulk d + 1
 end
def uptoSmall : (H : Type) → List (DataW H) → Bool := fun _ ds => decide (uptoBulkAll ds ≤ 1048576)
def OpenSpec.upto (s : _root_.Go.ChangeSpec) : _root_.Go.OpenSpec := { _root_.Go.OpenSpec.ofChange s with cond := some uptoSmall }

/-- 'keelsonlaw9.RegionChooses', WHERE WHAT IT READS IS OF BULK AT MOST 1048576: true; the input reads as it did. -/
def regionChoosesUptoRow : OpenClaim := { program := "ytoibehikojkoiaa", sum := "02e7172530b737e31a68986880771c9ea1c031dafe175f8537976df208e41a97", func := "keelson/keelsonlaw9.RegionChooses", spec := "regionChooses", unfollowed := true, recurses := true, apart := false, narrowed := true }
def RegionChoosesUptoSaid : Prop := regionChoosesUptoRow.holds Try.pinned (OpenSpec.upto regionChoosesSpec)

/-- 'keelsonlaw7.RecordTells', WHERE WHAT IT READS IS OF BULK AT MOST 1048576: true; the input reads as it did. -/
def recordTellsUptoRow : OpenClaim := { program := "ytoibehikojkoiaa", sum := "02e7172530b737e31a68986880771c9ea1c031dafe175f8537976df208e41a97", func := "keelson/keelsonlaw7.RecordTells", spec := "recordTells", unfollowed := true, recurses := true, apart := false, narrowed := true }
def RecordTellsUptoSaid : Prop := recordTellsUptoRow.holds Try.pinned (OpenSpec.upto recordTellsSpec)

/-- 'keelsonlaw7.RecordReads', WHERE WHAT IT READS IS OF BULK AT MOST 1048576: true; the input reads as it did. -/
def recordReadsUptoRow : OpenClaim := { program := "ytoibehikojkoiaa", sum := "02e7172530b737e31a68986880771c9ea1c031dafe175f8537976df208e41a97", func := "keelson/keelsonlaw7.RecordReads", spec := "recordReads", unfollowed := true, recurses := true, apart := false, narrowed := true }
def RecordReadsUptoSaid : Prop := recordReadsUptoRow.holds Try.pinned (OpenSpec.upto recordReadsSpec)

/-- 'keelsonlaw7.RecordBack', WHERE WHAT IT READS IS OF BULK AT MOST 1048576: true; the input reads as it did. -/
def recordBackUptoRow : OpenClaim := { program := "ytoibehikojkoiaa", sum := "02e7172530b737e31a68986880771c9ea1c031dafe175f8537976df208e41a97", func := "keelson/keelsonlaw7.RecordBack", spec := "recordBack", unfollowed := true, recurses := true, apart := false, narrowed := true }
def RecordBackUptoSaid : Prop := recordBackUptoRow.holds Try.pinned (OpenSpec.upto recordBackSpec)

/-- 'keelsonlaw7.RecordSpoilt', WHERE WHAT IT READS IS OF BULK AT MOST 1048576: true; the input reads as it did. -/
def recordSpoiltUptoRow : OpenClaim := { program := "ytoibehikojkoiaa", sum := "02e7172530b737e31a68986880771c9ea1c031dafe175f8537976df208e41a97", func := "keelson/keelsonlaw7.RecordSpoilt", spec := "recordSpoilt", unfollowed := true, recurses := true, apart := false, narrowed := true }
def RecordSpoiltUptoSaid : Prop := recordSpoiltUptoRow.holds Try.pinned (OpenSpec.upto recordSpoiltSpec)

/-- 'keelsonlaw7.RecordTorn', WHERE WHAT IT READS IS OF BULK AT MOST 1048576: true; the input reads as it did. -/
def recordTornUptoRow : OpenClaim := { program := "ytoibehikojkoiaa", sum := "02e7172530b737e31a68986880771c9ea1c031dafe175f8537976df208e41a97", func := "keelson/keelsonlaw7.RecordTorn", spec := "recordTorn", unfollowed := true, recurses := true, apart := false, narrowed := true }
def RecordTornUptoSaid : Prop := recordTornUptoRow.holds Try.pinned (OpenSpec.upto recordTornSpec)

/-- 'keelsonlaw15.WriterSpace', WHERE WHAT IT READS IS OF BULK AT MOST 1048576: true; the input reads as it did. -/
def writerSpaceUptoRow : OpenClaim := { program := "ytoibehikojkoiaa", sum := "02e7172530b737e31a68986880771c9ea1c031dafe175f8537976df208e41a97", func := "keelson/keelsonlaw15.WriterSpace", spec := "writerSpace", unfollowed := true, recurses := true, apart := false, narrowed := true }
def WriterSpaceUptoSaid : Prop := writerSpaceUptoRow.holds Try.pinned (OpenSpec.upto writerSpaceSpec)

/-- 'keelsonlaw15.WriterPlaces', WHERE WHAT IT READS IS OF BULK AT MOST 1048576: true; the input reads as it did. -/
def writerPlacesUptoRow : OpenClaim := { program := "ytoibehikojkoiaa", sum := "02e7172530b737e31a68986880771c9ea1c031dafe175f8537976df208e41a97", func := "keelson/keelsonlaw15.WriterPlaces", spec := "writerPlaces", unfollowed := true, recurses := true, apart := false, narrowed := true }
def WriterPlacesUptoSaid : Prop := writerPlacesUptoRow.holds Try.pinned (OpenSpec.upto writerPlacesSpec)

end Rows
end Go.Proofs.Ytoibehikojkoiaa
