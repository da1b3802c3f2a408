/-
  No cell of these rows narrows 'for every input' (looked for: loops, veiled, ifaces, maps, wideKeys, modest, calm, conditions, laid).
  DERIVED. THE GIVEN ROWS OF THIS SEAT. 11 by the template 'for every input the law returns true; each argument reads behind the call as it read before'; 0 by the template 'total and deterministic' (their statements: YtgcfdjcpcclcjaaGreatTotals.lean).
  GIVEN WITH THE SEED: the statements are not yours to turn. If you find one false, say at which input.
  Laid BY PROGRAM, IN A SANDBOX (cutbox-rows.mjs): the forced cells as the released guide's own fill.sh prints them over the translation f9d01a5ded5e7184… (all of the seat's roots in one cut). By AI agents, Wed Nov 11 2026. No macro, syntax, notation, axiom, sorry.
-/
import Derived.Test.YtgcfdjcpcclcjaaGreatChecked
import GoSem.Claim
import GoSem.ClaimJoined
import GoSem.ClaimMapViews
import Derived.JoinedTies
import Derived.KernelRfl
namespace Go.Proofs.YtgcfdjcpcclcjaaGreat
/- THE CELL 'sum', in the pinned program and in every row, IS THE sha256 OF THE DUMP (.gsa) THAT YtgcfdjcpcclcjaaGreatProg.lean LOADS. Nothing in Lean hashes anything: it is a label: what it is worth is what the hold of that sum in a sandbox is worth. -/
noncomputable def Tryz.pinned : Pinned := { name := "ytgcfdjcpcclcjaagreat", sum := "f9d01a5ded5e7184e568eb02744d1a1e35151f7fdcebe6acb4e5e528c037752d", checked := Tryz.checked }
namespace Rows
def none {H : Type} : Left H := { results := [], args := [] }

/-- 'keelsonlaw13.ScanBreaks': WHATEVER THE INPUT: true; the input reads as it did. -/
def scanBreaksSpec : ChangeSpec := { name := "scanBreaks", fn := fun _ => fun
  | [d1, d2, d3] => { results := [.lit (.bool true)], args := [d1, d2, d3] }
  | _ => none }
def scanBreaksRow : OpenClaim := { program := "ytgcfdjcpcclcjaagreat", sum := "f9d01a5ded5e7184e568eb02744d1a1e35151f7fdcebe6acb4e5e528c037752d", func := "keelson/keelsonlaw13.ScanBreaks", spec := "scanBreaks", unfollowed := true, recurses := true, apart := false }
def ScanBreaksSaid : Prop := scanBreaksRow.holds Tryz.pinned (OpenSpec.ofChange scanBreaksSpec)

/-- ITS FALSE NEIGHBOUR: 'it returns false'. Refute it at one input. -/
def scanBreaksWrong : ChangeSpec := { name := "scanBreaks", fn := fun _ => fun
  | [d1, d2, d3] => { results := [.lit (.bool false)], args := [d1, d2, d3] }
  | _ => none }
def ScanBreaksWrongFalsely : Prop := scanBreaksRow.holds Tryz.pinned (OpenSpec.ofChange scanBreaksWrong)

/-- 'keelsonlaw13.ScanMounts': WHATEVER THE INPUT: true; the input reads as it did. -/
def scanMountsSpec : ChangeSpec := { name := "scanMounts", fn := fun _ => fun
  | [d] => { results := [.lit (.bool true)], args := [d] }
  | _ => none }
def scanMountsRow : OpenClaim := { program := "ytgcfdjcpcclcjaagreat", sum := "f9d01a5ded5e7184e568eb02744d1a1e35151f7fdcebe6acb4e5e528c037752d", func := "keelson/keelsonlaw13.ScanMounts", spec := "scanMounts", unfollowed := true, recurses := true, apart := false }
def ScanMountsSaid : Prop := scanMountsRow.holds Tryz.pinned (OpenSpec.ofChange scanMountsSpec)

/-- ITS FALSE NEIGHBOUR: 'it returns false'. Refute it at one input. -/
def scanMountsWrong : ChangeSpec := { name := "scanMounts", fn := fun _ => fun
  | [d] => { results := [.lit (.bool false)], args := [d] }
  | _ => none }
def ScanMountsWrongFalsely : Prop := scanMountsRow.holds Tryz.pinned (OpenSpec.ofChange scanMountsWrong)

/-- 'keelsonlaw13.ScanStops': WHATEVER THE INPUT: true; the input reads as it did. -/
def scanStopsSpec : ChangeSpec := { name := "scanStops", fn := fun _ => fun
  | [d1, d2] => { results := [.lit (.bool true)], args := [d1, d2] }
  | _ => none }
def scanStopsRow : OpenClaim := { program := "ytgcfdjcpcclcjaagreat", sum := "f9d01a5ded5e7184e568eb02744d1a1e35151f7fdcebe6acb4e5e528c037752d", func := "keelson/keelsonlaw13.ScanStops", spec := "scanStops", unfollowed := true, recurses := true, apart := false }
def ScanStopsSaid : Prop := scanStopsRow.holds Tryz.pinned (OpenSpec.ofChange scanStopsSpec)

/-- ITS FALSE NEIGHBOUR: 'it returns false'. Refute it at one input. -/
def scanStopsWrong : ChangeSpec := { name := "scanStops", fn := fun _ => fun
  | [d1, d2] => { results := [.lit (.bool false)], args := [d1, d2] }
  | _ => none }
def ScanStopsWrongFalsely : Prop := scanStopsRow.holds Tryz.pinned (OpenSpec.ofChange scanStopsWrong)

/-- 'keelsonlaw13.ScanPlays': WHATEVER THE INPUT: true; the input reads as it did. -/
def scanPlaysSpec : ChangeSpec := { name := "scanPlays", fn := fun _ => fun
  | [d1, d2, d3, d4, d5, d6] => { results := [.lit (.bool true)], args := [d1, d2, d3, d4, d5, d6] }
  | _ => none }
def scanPlaysRow : OpenClaim := { program := "ytgcfdjcpcclcjaagreat", sum := "f9d01a5ded5e7184e568eb02744d1a1e35151f7fdcebe6acb4e5e528c037752d", func := "keelson/keelsonlaw13.ScanPlays", spec := "scanPlays", unfollowed := true, recurses := true, apart := false }
def ScanPlaysSaid : Prop := scanPlaysRow.holds Tryz.pinned (OpenSpec.ofChange scanPlaysSpec)

/-- ITS FALSE NEIGHBOUR: 'it returns false'. Refute it at one input. -/
def scanPlaysWrong : ChangeSpec := { name := "scanPlays", fn := fun _ => fun
  | [d1, d2, d3, d4, d5, d6] => { results := [.lit (.bool false)], args := [d1, d2, d3, d4, d5, d6] }
  | _ => none }
def ScanPlaysWrongFalsely : Prop := scanPlaysRow.holds Tryz.pinned (OpenSpec.ofChange scanPlaysWrong)

/-- 'keelsonlaw15.WriterPlays': WHATEVER THE INPUT: true; the input reads as it did. -/
def writerPlaysSpec : ChangeSpec := { name := "writerPlays", fn := fun _ => fun
  | [d1, d2, d3, d4] => { results := [.lit (.bool true)], args := [d1, d2, d3, d4] }
  | _ => none }
def writerPlaysRow : OpenClaim := { program := "ytgcfdjcpcclcjaagreat", sum := "f9d01a5ded5e7184e568eb02744d1a1e35151f7fdcebe6acb4e5e528c037752d", func := "keelson/keelsonlaw15.WriterPlays", spec := "writerPlays", unfollowed := true, recurses := true, apart := false }
def WriterPlaysSaid : Prop := writerPlaysRow.holds Tryz.pinned (OpenSpec.ofChange writerPlaysSpec)

/-- ITS FALSE NEIGHBOUR: 'it returns false'. Refute it at one input. -/
def writerPlaysWrong : ChangeSpec := { name := "writerPlays", fn := fun _ => fun
  | [d1, d2, d3, d4] => { results := [.lit (.bool false)], args := [d1, d2, d3, d4] }
  | _ => none }
def WriterPlaysWrongFalsely : Prop := writerPlaysRow.holds Tryz.pinned (OpenSpec.ofChange writerPlaysWrong)

/-- 'keelsonlaw14.ChainLong': WHATEVER THE INPUT: true; the input reads as it did. -/
def chainLongSpec : ChangeSpec := { name := "chainLong", fn := fun _ => fun
  | [d1, d2, d3] => { results := [.lit (.bool true)], args := [d1, d2, d3] }
  | _ => none }
def chainLongRow : OpenClaim := { program := "ytgcfdjcpcclcjaagreat", sum := "f9d01a5ded5e7184e568eb02744d1a1e35151f7fdcebe6acb4e5e528c037752d", func := "keelson/keelsonlaw14.ChainLong", spec := "chainLong", unfollowed := true, recurses := true, apart := false }
def ChainLongSaid : Prop := chainLongRow.holds Tryz.pinned (OpenSpec.ofChange chainLongSpec)

/-- ITS FALSE NEIGHBOUR: 'it returns false'. Refute it at one input. -/
def chainLongWrong : ChangeSpec := { name := "chainLong", fn := fun _ => fun
  | [d1, d2, d3] => { results := [.lit (.bool false)], args := [d1, d2, d3] }
  | _ => none }
def ChainLongWrongFalsely : Prop := chainLongRow.holds Tryz.pinned (OpenSpec.ofChange chainLongWrong)

/-- 'keelsonlaw14.ChainCut': WHATEVER THE INPUT: true; the input reads as it did. -/
def chainCutSpec : ChangeSpec := { name := "chainCut", fn := fun _ => fun
  | [d1, d2, d3, d4] => { results := [.lit (.bool true)], args := [d1, d2, d3, d4] }
  | _ => none }
def chainCutRow : OpenClaim := { program := "ytgcfdjcpcclcjaagreat", sum := "f9d01a5ded5e7184e568eb02744d1a1e35151f7fdcebe6acb4e5e528c037752d", func := "keelson/keelsonlaw14.ChainCut", spec := "chainCut", unfollowed := true, recurses := true, apart := false }
def ChainCutSaid : Prop := chainCutRow.holds Tryz.pinned (OpenSpec.ofChange chainCutSpec)

/-- ITS FALSE NEIGHBOUR: 'it returns false'. Refute it at one input. -/
def chainCutWrong : ChangeSpec := { name := "chainCut", fn := fun _ => fun
  | [d1, d2, d3, d4] => { results := [.lit (.bool false)], args := [d1, d2, d3, d4] }
  | _ => none }
def ChainCutWrongFalsely : Prop := chainCutRow.holds Tryz.pinned (OpenSpec.ofChange chainCutWrong)

/-- 'keelsonlaw14.ChainPlays': WHATEVER THE INPUT: true; the input reads as it did. -/
def chainPlaysSpec : ChangeSpec := { name := "chainPlays", fn := fun _ => fun
  | [d1, d2, d3, d4, d5] => { results := [.lit (.bool true)], args := [d1, d2, d3, d4, d5] }
  | _ => none }
def chainPlaysRow : OpenClaim := { program := "ytgcfdjcpcclcjaagreat", sum := "f9d01a5ded5e7184e568eb02744d1a1e35151f7fdcebe6acb4e5e528c037752d", func := "keelson/keelsonlaw14.ChainPlays", spec := "chainPlays", unfollowed := true, recurses := true, apart := false }
def ChainPlaysSaid : Prop := chainPlaysRow.holds Tryz.pinned (OpenSpec.ofChange chainPlaysSpec)

/-- ITS FALSE NEIGHBOUR: 'it returns false'. Refute it at one input. -/
def chainPlaysWrong : ChangeSpec := { name := "chainPlays", fn := fun _ => fun
  | [d1, d2, d3, d4, d5] => { results := [.lit (.bool false)], args := [d1, d2, d3, d4, d5] }
  | _ => none }
def ChainPlaysWrongFalsely : Prop := chainPlaysRow.holds Tryz.pinned (OpenSpec.ofChange chainPlaysWrong)

/-- 'keelsonlaw14.ChainFault': WHATEVER THE INPUT: true; the input reads as it did. -/
def chainFaultSpec : ChangeSpec := { name := "chainFault", fn := fun _ => fun
  | [d1, d2, d3] => { results := [.lit (.bool true)], args := [d1, d2, d3] }
  | _ => none }
def chainFaultRow : OpenClaim := { program := "ytgcfdjcpcclcjaagreat", sum := "f9d01a5ded5e7184e568eb02744d1a1e35151f7fdcebe6acb4e5e528c037752d", func := "keelson/keelsonlaw14.ChainFault", spec := "chainFault", unfollowed := true, recurses := true, apart := false }
def ChainFaultSaid : Prop := chainFaultRow.holds Tryz.pinned (OpenSpec.ofChange chainFaultSpec)

/-- ITS FALSE NEIGHBOUR: 'it returns false'. Refute it at one input. -/
def chainFaultWrong : ChangeSpec := { name := "chainFault", fn := fun _ => fun
  | [d1, d2, d3] => { results := [.lit (.bool false)], args := [d1, d2, d3] }
  | _ => none }
def ChainFaultWrongFalsely : Prop := chainFaultRow.holds Tryz.pinned (OpenSpec.ofChange chainFaultWrong)

/-- 'keelsonlaw15.WriterBack': WHATEVER THE INPUT: true; the input reads as it did. -/
def writerBackSpec : ChangeSpec := { name := "writerBack", fn := fun _ => fun
  | [d1, d2] => { results := [.lit (.bool true)], args := [d1, d2] }
  | _ => none }
def writerBackRow : OpenClaim := { program := "ytgcfdjcpcclcjaagreat", sum := "f9d01a5ded5e7184e568eb02744d1a1e35151f7fdcebe6acb4e5e528c037752d", func := "keelson/keelsonlaw15.WriterBack", spec := "writerBack", unfollowed := true, recurses := true, apart := false }
def WriterBackSaid : Prop := writerBackRow.holds Tryz.pinned (OpenSpec.ofChange writerBackSpec)

/-- ITS FALSE NEIGHBOUR: 'it returns false'. Refute it at one input. -/
def writerBackWrong : ChangeSpec := { name := "writerBack", fn := fun _ => fun
  | [d1, d2] => { results := [.lit (.bool false)], args := [d1, d2] }
  | _ => none }
def WriterBackWrongFalsely : Prop := writerBackRow.holds Tryz.pinned (OpenSpec.ofChange writerBackWrong)

/-- 'keelsonlaw15.WriterRoom': WHATEVER THE INPUT: true; the input reads as it did. -/
def writerRoomSpec : ChangeSpec := { name := "writerRoom", fn := fun _ => fun
  | [d1, d2] => { results := [.lit (.bool true)], args := [d1, d2] }
  | _ => none }
def writerRoomRow : OpenClaim := { program := "ytgcfdjcpcclcjaagreat", sum := "f9d01a5ded5e7184e568eb02744d1a1e35151f7fdcebe6acb4e5e528c037752d", func := "keelson/keelsonlaw15.WriterRoom", spec := "writerRoom", unfollowed := true, recurses := true, apart := false }
def WriterRoomSaid : Prop := writerRoomRow.holds Tryz.pinned (OpenSpec.ofChange writerRoomSpec)

/-- ITS FALSE NEIGHBOUR: 'it returns false'. Refute it at one input. -/
def writerRoomWrong : ChangeSpec := { name := "writerRoom", fn := fun _ => fun
  | [d1, d2] => { results := [.lit (.bool false)], args := [d1, d2] }
  | _ => none }
def WriterRoomWrongFalsely : Prop := writerRoomRow.holds Tryz.pinned (OpenSpec.ofChange writerRoomWrong)

/- THE SECOND FORM. 'bulk': how many values and letters a reading holds, each counted each time it is reached (what is shared counts as often as it is met; a slice's spare places count too). A statement '..UptoSaid' is the law's where the arguments, and the package variables that the reading takes, are together of bulk at most 1048576: NARROWER than '..Said'. Prove '..Said' where nothing that the law and all that it calls make is longer than what came in: it says more and counts as full. Else prove '..UptoSaid'. A law counts once. -/
mutual
def uptoBulk {H : Type} : DataW H → Nat
  | .lit (.string bytes) => bytes.length + 1
  | .lit _ => 1
  | .nil => 1
  | .ptr d => uptoBulk d + 1
  | .slice elems spare => uptoBulkAll elems + uptoBulkAll spare + 1
  | .agg parts => uptoBulkAll parts + 1
  | .iface _ d => uptoBulk d + 1
  | .map entries => uptoBulkEntries entries + 1
  | .held _ => 1
def uptoBulkAll {H : Type} : List (DataW H) → Nat
  | [] => 0
  | d :: r => uptoBulk d + uptoBulkAll r
def uptoBulkEntries {H : Type} : List (Lit × DataW H) → Nat
  | [] => 0
  | x :: r => uptoBulkEntry x + uptoBulkEntries r
def uptoBulkEntry {H : Type} : Lit × DataW H → Nat
  | (.string bytes, d) => bytes.length + uptoBulk d + 1
  | (_, d) => uptoBulk d + 1
 end
def uptoSmall : (H : Type) → List (DataW H) → Bool := fun _ ds => decide (uptoBulkAll ds ≤ 1048576)
def OpenSpec.upto (s : _root_.Go.ChangeSpec) : _root_.Go.OpenSpec := { _root_.Go.OpenSpec.ofChange s with cond := some uptoSmall }

/-- 'keelsonlaw13.ScanBreaks', WHERE WHAT IT READS IS OF BULK AT MOST 1048576: true; the input reads as it did. -/
def scanBreaksUptoRow : OpenClaim := { program := "ytgcfdjcpcclcjaagreat", sum := "f9d01a5ded5e7184e568eb02744d1a1e35151f7fdcebe6acb4e5e528c037752d", func := "keelson/keelsonlaw13.ScanBreaks", spec := "scanBreaks", unfollowed := true, recurses := true, apart := false, narrowed := true }
def ScanBreaksUptoSaid : Prop := scanBreaksUptoRow.holds Tryz.pinned (OpenSpec.upto scanBreaksSpec)

/-- 'keelsonlaw13.ScanMounts', WHERE WHAT IT READS IS OF BULK AT MOST 1048576: true; the input reads as it did. -/
def scanMountsUptoRow : OpenClaim := { program := "ytgcfdjcpcclcjaagreat", sum := "f9d01a5ded5e7184e568eb02744d1a1e35151f7fdcebe6acb4e5e528c037752d", func := "keelson/keelsonlaw13.ScanMounts", spec := "scanMounts", unfollowed := true, recurses := true, apart := false, narrowed := true }
def ScanMountsUptoSaid : Prop := scanMountsUptoRow.holds Tryz.pinned (OpenSpec.upto scanMountsSpec)

/-- 'keelsonlaw13.ScanStops', WHERE WHAT IT READS IS OF BULK AT MOST 1048576: true; the input reads as it did. -/
def scanStopsUptoRow : OpenClaim := { program := "ytgcfdjcpcclcjaagreat", sum := "f9d01a5ded5e7184e568eb02744d1a1e35151f7fdcebe6acb4e5e528c037752d", func := "keelson/keelsonlaw13.ScanStops", spec := "scanStops", unfollowed := true, recurses := true, apart := false, narrowed := true }
def ScanStopsUptoSaid : Prop := scanStopsUptoRow.holds Tryz.pinned (OpenSpec.upto scanStopsSpec)

/-- 'keelsonlaw13.ScanPlays', WHERE WHAT IT READS IS OF BULK AT MOST 1048576: true; the input reads as it did. -/
def scanPlaysUptoRow : OpenClaim := { program := "ytgcfdjcpcclcjaagreat", sum := "f9d01a5ded5e7184e568eb02744d1a1e35151f7fdcebe6acb4e5e528c037752d", func := "keelson/keelsonlaw13.ScanPlays", spec := "scanPlays", unfollowed := true, recurses := true, apart := false, narrowed := true }
def ScanPlaysUptoSaid : Prop := scanPlaysUptoRow.holds Tryz.pinned (OpenSpec.upto scanPlaysSpec)

/-- 'keelsonlaw15.WriterPlays', WHERE WHAT IT READS IS OF BULK AT MOST 1048576: true; the input reads as it did. -/
def writerPlaysUptoRow : OpenClaim := { program := "ytgcfdjcpcclcjaagreat", sum := "f9d01a5ded5e7184e568eb02744d1a1e35151f7fdcebe6acb4e5e528c037752d", func := "keelson/keelsonlaw15.WriterPlays", spec := "writerPlays", unfollowed := true, recurses := true, apart := false, narrowed := true }
def WriterPlaysUptoSaid : Prop := writerPlaysUptoRow.holds Tryz.pinned (OpenSpec.upto writerPlaysSpec)

/-- 'keelsonlaw14.ChainLong', WHERE WHAT IT READS IS OF BULK AT MOST 1048576: true; the input reads as it did. -/
def chainLongUptoRow : OpenClaim := { program := "ytgcfdjcpcclcjaagreat", sum := "f9d01a5ded5e7184e568eb02744d1a1e35151f7fdcebe6acb4e5e528c037752d", func := "keelson/keelsonlaw14.ChainLong", spec := "chainLong", unfollowed := true, recurses := true, apart := false, narrowed := true }
def ChainLongUptoSaid : Prop := chainLongUptoRow.holds Tryz.pinned (OpenSpec.upto chainLongSpec)

/-- 'keelsonlaw14.ChainCut', WHERE WHAT IT READS IS OF BULK AT MOST 1048576: true; the input reads as it did. -/
def chainCutUptoRow : OpenClaim := { program := "ytgcfdjcpcclcjaagreat", sum := "f9d01a5ded5e7184e568eb02744d1a1e35151f7fdcebe6acb4e5e528c037752d", func := "keelson/keelsonlaw14.ChainCut", spec := "chainCut", unfollowed := true, recurses := true, apart := false, narrowed := true }
def ChainCutUptoSaid : Prop := chainCutUptoRow.holds Tryz.pinned (OpenSpec.upto chainCutSpec)

/-- 'keelsonlaw14.ChainPlays', WHERE WHAT IT READS IS OF BULK AT MOST 1048576: true; the input reads as it did. -/
def chainPlaysUptoRow : OpenClaim := { program := "ytgcfdjcpcclcjaagreat", sum := "f9d01a5ded5e7184e568eb02744d1a1e35151f7fdcebe6acb4e5e528c037752d", func := "keelson/keelsonlaw14.ChainPlays", spec := "chainPlays", unfollowed := true, recurses := true, apart := false, narrowed := true }
def ChainPlaysUptoSaid : Prop := chainPlaysUptoRow.holds Tryz.pinned (OpenSpec.upto chainPlaysSpec)

/-- 'keelsonlaw14.ChainFault', WHERE WHAT IT READS IS OF BULK AT MOST 1048576: true; the input reads as it did. -/
def chainFaultUptoRow : OpenClaim := { program := "ytgcfdjcpcclcjaagreat", sum := "f9d01a5ded5e7184e568eb02744d1a1e35151f7fdcebe6acb4e5e528c037752d", func := "keelson/keelsonlaw14.ChainFault", spec := "chainFault", unfollowed := true, recurses := true, apart := false, narrowed := true }
def ChainFaultUptoSaid : Prop := chainFaultUptoRow.holds Tryz.pinned (OpenSpec.upto chainFaultSpec)

/-- 'keelsonlaw15.WriterBack', WHERE WHAT IT READS IS OF BULK AT MOST 1048576: true; the input reads as it did. -/
def writerBackUptoRow : OpenClaim := { program := "ytgcfdjcpcclcjaagreat", sum := "f9d01a5ded5e7184e568eb02744d1a1e35151f7fdcebe6acb4e5e528c037752d", func := "keelson/keelsonlaw15.WriterBack", spec := "writerBack", unfollowed := true, recurses := true, apart := false, narrowed := true }
def WriterBackUptoSaid : Prop := writerBackUptoRow.holds Tryz.pinned (OpenSpec.upto writerBackSpec)

/-- 'keelsonlaw15.WriterRoom', WHERE WHAT IT READS IS OF BULK AT MOST 1048576: true; the input reads as it did. -/
def writerRoomUptoRow : OpenClaim := { program := "ytgcfdjcpcclcjaagreat", sum := "f9d01a5ded5e7184e568eb02744d1a1e35151f7fdcebe6acb4e5e528c037752d", func := "keelson/keelsonlaw15.WriterRoom", spec := "writerRoom", unfollowed := true, recurses := true, apart := false, narrowed := true }
def WriterRoomUptoSaid : Prop := writerRoomUptoRow.holds Tryz.pinned (OpenSpec.upto writerRoomSpec)

end Rows
end Go.Proofs.YtgcfdjcpcclcjaaGreat
