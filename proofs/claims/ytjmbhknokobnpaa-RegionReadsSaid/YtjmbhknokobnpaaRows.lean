/-
  No cell of these rows narrows 'for every input' (looked for: loops, veiled, ifaces, maps, wideKeys, modest, calm, conditions, laid).
  DERIVED. THE GIVEN ROWS OF THIS SEAT. 20 by the template 'for every input the law returns true; each argument reads behind the call as it read before'; 0 by the template 'total and deterministic' (their statements: YtjmbhknokobnpaaTotals.lean).
  GIVEN WITH THE SEED: the statements are not yours to turn. If you find one false, say at which input.
  Laid BY PROGRAM, IN A SANDBOX (cutbox-rows.mjs): the forced cells as the released guide's own fill.sh prints them over the translation 6dc90eded332b0b4… (all of the seat's roots in one cut). By AI agents, Wed Nov 11 2026. No macro, syntax, notation, axiom, sorry.
-/
import Derived.Test.YtjmbhknokobnpaaChecked
import GoSem.Claim
import GoSem.ClaimJoined
import GoSem.ClaimMapViews
import Derived.JoinedTies
import Derived.KernelRfl
namespace Go.Proofs.Ytjmbhknokobnpaa
/- THE CELL 'sum', in the pinned program and in every row, IS THE sha256 OF THE DUMP (.gsa) THAT YtjmbhknokobnpaaProg.lean LOADS. Nothing in Lean hashes anything: it is a label: what it is worth is what the hold of that sum in a sandbox is worth. -/
noncomputable def Try.pinned : Pinned := { name := "ytjmbhknokobnpaa", sum := "6dc90eded332b0b4777d220c41df4a50ecb220779e9e18cc32416c7f294e9c77", checked := Try.checked }
namespace Rows
def none {H : Type} : Left H := { results := [], args := [] }

/-- 'keelsonlaw5.SuperSpoilt': WHATEVER THE INPUT: true; the input reads as it did. -/
def superSpoiltSpec : ChangeSpec := { name := "superSpoilt", fn := fun _ => fun
  | [d1, d2, d3, d4, d5] => { results := [.lit (.bool true)], args := [d1, d2, d3, d4, d5] }
  | _ => none }
def superSpoiltRow : OpenClaim := { program := "ytjmbhknokobnpaa", sum := "6dc90eded332b0b4777d220c41df4a50ecb220779e9e18cc32416c7f294e9c77", func := "keelson/keelsonlaw5.SuperSpoilt", spec := "superSpoilt", apart := false }
def SuperSpoiltSaid : Prop := superSpoiltRow.holds Try.pinned (OpenSpec.ofChange superSpoiltSpec)

/-- ITS FALSE NEIGHBOUR: 'it returns false'. Refute it at one input. -/
def superSpoiltWrong : ChangeSpec := { name := "superSpoilt", fn := fun _ => fun
  | [d1, d2, d3, d4, d5] => { results := [.lit (.bool false)], args := [d1, d2, d3, d4, d5] }
  | _ => none }
def SuperSpoiltWrongFalsely : Prop := superSpoiltRow.holds Try.pinned (OpenSpec.ofChange superSpoiltWrong)

/-- 'keelsonlaw5.SuperChooses': WHATEVER THE INPUT: true; the input reads as it did. -/
def superChoosesSpec : ChangeSpec := { name := "superChooses", fn := fun _ => fun
  | [d1, d2, d3, d4] => { results := [.lit (.bool true)], args := [d1, d2, d3, d4] }
  | _ => none }
def superChoosesRow : OpenClaim := { program := "ytjmbhknokobnpaa", sum := "6dc90eded332b0b4777d220c41df4a50ecb220779e9e18cc32416c7f294e9c77", func := "keelson/keelsonlaw5.SuperChooses", spec := "superChooses", apart := false }
def SuperChoosesSaid : Prop := superChoosesRow.holds Try.pinned (OpenSpec.ofChange superChoosesSpec)

/-- ITS FALSE NEIGHBOUR: 'it returns false'. Refute it at one input. -/
def superChoosesWrong : ChangeSpec := { name := "superChooses", fn := fun _ => fun
  | [d1, d2, d3, d4] => { results := [.lit (.bool false)], args := [d1, d2, d3, d4] }
  | _ => none }
def SuperChoosesWrongFalsely : Prop := superChoosesRow.holds Try.pinned (OpenSpec.ofChange superChoosesWrong)

/-- 'keelsonlaw30.ScriptTells': WHATEVER THE INPUT: true; the input reads as it did. -/
def scriptTellsSpec : ChangeSpec := { name := "scriptTells", fn := fun _ => fun
  | [d1, d2] => { results := [.lit (.bool true)], args := [d1, d2] }
  | _ => none }
def scriptTellsRow : OpenClaim := { program := "ytjmbhknokobnpaa", sum := "6dc90eded332b0b4777d220c41df4a50ecb220779e9e18cc32416c7f294e9c77", func := "keelson/keelsonlaw30.ScriptTells", spec := "scriptTells", unfollowed := true, recurses := true, apart := false }
def ScriptTellsSaid : Prop := scriptTellsRow.holds Try.pinned (OpenSpec.ofChange scriptTellsSpec)

/-- ITS FALSE NEIGHBOUR: 'it returns false'. Refute it at one input. -/
def scriptTellsWrong : ChangeSpec := { name := "scriptTells", fn := fun _ => fun
  | [d1, d2] => { results := [.lit (.bool false)], args := [d1, d2] }
  | _ => none }
def ScriptTellsWrongFalsely : Prop := scriptTellsRow.holds Try.pinned (OpenSpec.ofChange scriptTellsWrong)

/-- 'keelsonlaw30.ScriptBack': WHATEVER THE INPUT: true; the input reads as it did. -/
def scriptBackSpec : ChangeSpec := { name := "scriptBack", fn := fun _ => fun
  | [d1, d2, d3] => { results := [.lit (.bool true)], args := [d1, d2, d3] }
  | _ => none }
def scriptBackRow : OpenClaim := { program := "ytjmbhknokobnpaa", sum := "6dc90eded332b0b4777d220c41df4a50ecb220779e9e18cc32416c7f294e9c77", func := "keelson/keelsonlaw30.ScriptBack", spec := "scriptBack", unfollowed := true, recurses := true, apart := false }
def ScriptBackSaid : Prop := scriptBackRow.holds Try.pinned (OpenSpec.ofChange scriptBackSpec)

/-- ITS FALSE NEIGHBOUR: 'it returns false'. Refute it at one input. -/
def scriptBackWrong : ChangeSpec := { name := "scriptBack", fn := fun _ => fun
  | [d1, d2, d3] => { results := [.lit (.bool false)], args := [d1, d2, d3] }
  | _ => none }
def ScriptBackWrongFalsely : Prop := scriptBackRow.holds Try.pinned (OpenSpec.ofChange scriptBackWrong)

/-- 'keelsonlaw30.ScriptSpoilt': WHATEVER THE INPUT: true; the input reads as it did. -/
def scriptSpoiltSpec : ChangeSpec := { name := "scriptSpoilt", fn := fun _ => fun
  | [d1, d2, d3] => { results := [.lit (.bool true)], args := [d1, d2, d3] }
  | _ => none }
def scriptSpoiltRow : OpenClaim := { program := "ytjmbhknokobnpaa", sum := "6dc90eded332b0b4777d220c41df4a50ecb220779e9e18cc32416c7f294e9c77", func := "keelson/keelsonlaw30.ScriptSpoilt", spec := "scriptSpoilt", unfollowed := true, recurses := true, apart := false }
def ScriptSpoiltSaid : Prop := scriptSpoiltRow.holds Try.pinned (OpenSpec.ofChange scriptSpoiltSpec)

/-- ITS FALSE NEIGHBOUR: 'it returns false'. Refute it at one input. -/
def scriptSpoiltWrong : ChangeSpec := { name := "scriptSpoilt", fn := fun _ => fun
  | [d1, d2, d3] => { results := [.lit (.bool false)], args := [d1, d2, d3] }
  | _ => none }
def ScriptSpoiltWrongFalsely : Prop := scriptSpoiltRow.holds Try.pinned (OpenSpec.ofChange scriptSpoiltWrong)

/-- 'keelsonlaw30.ScriptParts': WHATEVER THE INPUT: true; the input reads as it did. -/
def scriptPartsSpec : ChangeSpec := { name := "scriptParts", fn := fun _ => fun
  | [d1, d2] => { results := [.lit (.bool true)], args := [d1, d2] }
  | _ => none }
def scriptPartsRow : OpenClaim := { program := "ytjmbhknokobnpaa", sum := "6dc90eded332b0b4777d220c41df4a50ecb220779e9e18cc32416c7f294e9c77", func := "keelson/keelsonlaw30.ScriptParts", spec := "scriptParts", unfollowed := true, recurses := true, apart := false }
def ScriptPartsSaid : Prop := scriptPartsRow.holds Try.pinned (OpenSpec.ofChange scriptPartsSpec)

/-- ITS FALSE NEIGHBOUR: 'it returns false'. Refute it at one input. -/
def scriptPartsWrong : ChangeSpec := { name := "scriptParts", fn := fun _ => fun
  | [d1, d2] => { results := [.lit (.bool false)], args := [d1, d2] }
  | _ => none }
def ScriptPartsWrongFalsely : Prop := scriptPartsRow.holds Try.pinned (OpenSpec.ofChange scriptPartsWrong)

/-- 'keelsonlaw30.ScriptLimits': WHATEVER THE INPUT: true; the input reads as it did. -/
def scriptLimitsSpec : ChangeSpec := { name := "scriptLimits", fn := fun _ => fun
  | [d1, d2, d3] => { results := [.lit (.bool true)], args := [d1, d2, d3] }
  | _ => none }
def scriptLimitsRow : OpenClaim := { program := "ytjmbhknokobnpaa", sum := "6dc90eded332b0b4777d220c41df4a50ecb220779e9e18cc32416c7f294e9c77", func := "keelson/keelsonlaw30.ScriptLimits", spec := "scriptLimits", unfollowed := true, recurses := true, apart := false }
def ScriptLimitsSaid : Prop := scriptLimitsRow.holds Try.pinned (OpenSpec.ofChange scriptLimitsSpec)

/-- ITS FALSE NEIGHBOUR: 'it returns false'. Refute it at one input. -/
def scriptLimitsWrong : ChangeSpec := { name := "scriptLimits", fn := fun _ => fun
  | [d1, d2, d3] => { results := [.lit (.bool false)], args := [d1, d2, d3] }
  | _ => none }
def ScriptLimitsWrongFalsely : Prop := scriptLimitsRow.holds Try.pinned (OpenSpec.ofChange scriptLimitsWrong)

/-- 'keelsonlaw22.FrameTells': WHATEVER THE INPUT: true; the input reads as it did. -/
def frameTellsSpec : ChangeSpec := { name := "frameTells", fn := fun _ => fun
  | [d1, d2] => { results := [.lit (.bool true)], args := [d1, d2] }
  | _ => none }
def frameTellsRow : OpenClaim := { program := "ytjmbhknokobnpaa", sum := "6dc90eded332b0b4777d220c41df4a50ecb220779e9e18cc32416c7f294e9c77", func := "keelson/keelsonlaw22.FrameTells", spec := "frameTells", apart := false }
def FrameTellsSaid : Prop := frameTellsRow.holds Try.pinned (OpenSpec.ofChange frameTellsSpec)

/-- ITS FALSE NEIGHBOUR: 'it returns false'. Refute it at one input. -/
def frameTellsWrong : ChangeSpec := { name := "frameTells", fn := fun _ => fun
  | [d1, d2] => { results := [.lit (.bool false)], args := [d1, d2] }
  | _ => none }
def FrameTellsWrongFalsely : Prop := frameTellsRow.holds Try.pinned (OpenSpec.ofChange frameTellsWrong)

/-- 'keelsonlaw22.FrameSpoilt': WHATEVER THE INPUT: true; the input reads as it did. -/
def frameSpoiltSpec : ChangeSpec := { name := "frameSpoilt", fn := fun _ => fun
  | [d1, d2, d3] => { results := [.lit (.bool true)], args := [d1, d2, d3] }
  | _ => none }
def frameSpoiltRow : OpenClaim := { program := "ytjmbhknokobnpaa", sum := "6dc90eded332b0b4777d220c41df4a50ecb220779e9e18cc32416c7f294e9c77", func := "keelson/keelsonlaw22.FrameSpoilt", spec := "frameSpoilt", apart := false }
def FrameSpoiltSaid : Prop := frameSpoiltRow.holds Try.pinned (OpenSpec.ofChange frameSpoiltSpec)

/-- ITS FALSE NEIGHBOUR: 'it returns false'. Refute it at one input. -/
def frameSpoiltWrong : ChangeSpec := { name := "frameSpoilt", fn := fun _ => fun
  | [d1, d2, d3] => { results := [.lit (.bool false)], args := [d1, d2, d3] }
  | _ => none }
def FrameSpoiltWrongFalsely : Prop := frameSpoiltRow.holds Try.pinned (OpenSpec.ofChange frameSpoiltWrong)

/-- 'keelsonlaw22.FrameOps': WHATEVER THE INPUT: true; the input reads as it did. -/
def frameOpsSpec : ChangeSpec := { name := "frameOps", fn := fun _ => fun
  | [d1, d2, d3, d4] => { results := [.lit (.bool true)], args := [d1, d2, d3, d4] }
  | _ => none }
def frameOpsRow : OpenClaim := { program := "ytjmbhknokobnpaa", sum := "6dc90eded332b0b4777d220c41df4a50ecb220779e9e18cc32416c7f294e9c77", func := "keelson/keelsonlaw22.FrameOps", spec := "frameOps", apart := false }
def FrameOpsSaid : Prop := frameOpsRow.holds Try.pinned (OpenSpec.ofChange frameOpsSpec)

/-- ITS FALSE NEIGHBOUR: 'it returns false'. Refute it at one input. -/
def frameOpsWrong : ChangeSpec := { name := "frameOps", fn := fun _ => fun
  | [d1, d2, d3, d4] => { results := [.lit (.bool false)], args := [d1, d2, d3, d4] }
  | _ => none }
def FrameOpsWrongFalsely : Prop := frameOpsRow.holds Try.pinned (OpenSpec.ofChange frameOpsWrong)

/-- 'keelsonlaw22.FrameBack': WHATEVER THE INPUT: true; the input reads as it did. -/
def frameBackSpec : ChangeSpec := { name := "frameBack", fn := fun _ => fun
  | [d] => { results := [.lit (.bool true)], args := [d] }
  | _ => none }
def frameBackRow : OpenClaim := { program := "ytjmbhknokobnpaa", sum := "6dc90eded332b0b4777d220c41df4a50ecb220779e9e18cc32416c7f294e9c77", func := "keelson/keelsonlaw22.FrameBack", spec := "frameBack", apart := false }
def FrameBackSaid : Prop := frameBackRow.holds Try.pinned (OpenSpec.ofChange frameBackSpec)

/-- ITS FALSE NEIGHBOUR: 'it returns false'. Refute it at one input. -/
def frameBackWrong : ChangeSpec := { name := "frameBack", fn := fun _ => fun
  | [d] => { results := [.lit (.bool false)], args := [d] }
  | _ => none }
def FrameBackWrongFalsely : Prop := frameBackRow.holds Try.pinned (OpenSpec.ofChange frameBackWrong)

/-- 'keelsonlaw9.RegionTells': WHATEVER THE INPUT: true; the input reads as it did. -/
def regionTellsSpec : ChangeSpec := { name := "regionTells", fn := fun _ => fun
  | [d1, d2] => { results := [.lit (.bool true)], args := [d1, d2] }
  | _ => none }
def regionTellsRow : OpenClaim := { program := "ytjmbhknokobnpaa", sum := "6dc90eded332b0b4777d220c41df4a50ecb220779e9e18cc32416c7f294e9c77", func := "keelson/keelsonlaw9.RegionTells", spec := "regionTells", unfollowed := true, recurses := true, apart := false }
def RegionTellsSaid : Prop := regionTellsRow.holds Try.pinned (OpenSpec.ofChange regionTellsSpec)

/-- ITS FALSE NEIGHBOUR: 'it returns false'. Refute it at one input. -/
def regionTellsWrong : ChangeSpec := { name := "regionTells", fn := fun _ => fun
  | [d1, d2] => { results := [.lit (.bool false)], args := [d1, d2] }
  | _ => none }
def RegionTellsWrongFalsely : Prop := regionTellsRow.holds Try.pinned (OpenSpec.ofChange regionTellsWrong)

/-- 'keelsonlaw9.RegionReads': WHATEVER THE INPUT: true; the input reads as it did. -/
def regionReadsSpec : ChangeSpec := { name := "regionReads", fn := fun _ => fun
  | [d1, d2, d3] => { results := [.lit (.bool true)], args := [d1, d2, d3] }
  | _ => none }
def regionReadsRow : OpenClaim := { program := "ytjmbhknokobnpaa", sum := "6dc90eded332b0b4777d220c41df4a50ecb220779e9e18cc32416c7f294e9c77", func := "keelson/keelsonlaw9.RegionReads", spec := "regionReads", unfollowed := true, recurses := true, apart := false }
def RegionReadsSaid : Prop := regionReadsRow.holds Try.pinned (OpenSpec.ofChange regionReadsSpec)

/-- ITS FALSE NEIGHBOUR: 'it returns false'. Refute it at one input. -/
def regionReadsWrong : ChangeSpec := { name := "regionReads", fn := fun _ => fun
  | [d1, d2, d3] => { results := [.lit (.bool false)], args := [d1, d2, d3] }
  | _ => none }
def RegionReadsWrongFalsely : Prop := regionReadsRow.holds Try.pinned (OpenSpec.ofChange regionReadsWrong)

/-- 'keelsonlaw9.RegionBack': WHATEVER THE INPUT: true; the input reads as it did. -/
def regionBackSpec : ChangeSpec := { name := "regionBack", fn := fun _ => fun
  | [d1, d2, d3, d4, d5] => { results := [.lit (.bool true)], args := [d1, d2, d3, d4, d5] }
  | _ => none }
def regionBackRow : OpenClaim := { program := "ytjmbhknokobnpaa", sum := "6dc90eded332b0b4777d220c41df4a50ecb220779e9e18cc32416c7f294e9c77", func := "keelson/keelsonlaw9.RegionBack", spec := "regionBack", unfollowed := true, recurses := true, apart := false }
def RegionBackSaid : Prop := regionBackRow.holds Try.pinned (OpenSpec.ofChange regionBackSpec)

/-- ITS FALSE NEIGHBOUR: 'it returns false'. Refute it at one input. -/
def regionBackWrong : ChangeSpec := { name := "regionBack", fn := fun _ => fun
  | [d1, d2, d3, d4, d5] => { results := [.lit (.bool false)], args := [d1, d2, d3, d4, d5] }
  | _ => none }
def RegionBackWrongFalsely : Prop := regionBackRow.holds Try.pinned (OpenSpec.ofChange regionBackWrong)

/-- 'keelsonlaw9.RegionChooses': WHATEVER THE INPUT: true; the input reads as it did. -/
def regionChoosesSpec : ChangeSpec := { name := "regionChooses", fn := fun _ => fun
  | [d1, d2, d3, d4] => { results := [.lit (.bool true)], args := [d1, d2, d3, d4] }
  | _ => none }
def regionChoosesRow : OpenClaim := { program := "ytjmbhknokobnpaa", sum := "6dc90eded332b0b4777d220c41df4a50ecb220779e9e18cc32416c7f294e9c77", func := "keelson/keelsonlaw9.RegionChooses", spec := "regionChooses", unfollowed := true, recurses := true, apart := false }
def RegionChoosesSaid : Prop := regionChoosesRow.holds Try.pinned (OpenSpec.ofChange regionChoosesSpec)

/-- ITS FALSE NEIGHBOUR: 'it returns false'. Refute it at one input. -/
def regionChoosesWrong : ChangeSpec := { name := "regionChooses", fn := fun _ => fun
  | [d1, d2, d3, d4] => { results := [.lit (.bool false)], args := [d1, d2, d3, d4] }
  | _ => none }
def RegionChoosesWrongFalsely : Prop := regionChoosesRow.holds Try.pinned (OpenSpec.ofChange regionChoosesWrong)

/-- 'keelsonlaw7.RecordTells': WHATEVER THE INPUT: true; the input reads as it did. -/
def recordTellsSpec : ChangeSpec := { name := "recordTells", fn := fun _ => fun
  | [d] => { results := [.lit (.bool true)], args := [d] }
  | _ => none }
def recordTellsRow : OpenClaim := { program := "ytjmbhknokobnpaa", sum := "6dc90eded332b0b4777d220c41df4a50ecb220779e9e18cc32416c7f294e9c77", func := "keelson/keelsonlaw7.RecordTells", spec := "recordTells", unfollowed := true, recurses := true, apart := false }
def RecordTellsSaid : Prop := recordTellsRow.holds Try.pinned (OpenSpec.ofChange recordTellsSpec)

/-- ITS FALSE NEIGHBOUR: 'it returns false'. Refute it at one input. -/
def recordTellsWrong : ChangeSpec := { name := "recordTells", fn := fun _ => fun
  | [d] => { results := [.lit (.bool false)], args := [d] }
  | _ => none }
def RecordTellsWrongFalsely : Prop := recordTellsRow.holds Try.pinned (OpenSpec.ofChange recordTellsWrong)

/-- 'keelsonlaw7.RecordReads': WHATEVER THE INPUT: true; the input reads as it did. -/
def recordReadsSpec : ChangeSpec := { name := "recordReads", fn := fun _ => fun
  | [d] => { results := [.lit (.bool true)], args := [d] }
  | _ => none }
def recordReadsRow : OpenClaim := { program := "ytjmbhknokobnpaa", sum := "6dc90eded332b0b4777d220c41df4a50ecb220779e9e18cc32416c7f294e9c77", func := "keelson/keelsonlaw7.RecordReads", spec := "recordReads", unfollowed := true, recurses := true, apart := false }
def RecordReadsSaid : Prop := recordReadsRow.holds Try.pinned (OpenSpec.ofChange recordReadsSpec)

/-- ITS FALSE NEIGHBOUR: 'it returns false'. Refute it at one input. -/
def recordReadsWrong : ChangeSpec := { name := "recordReads", fn := fun _ => fun
  | [d] => { results := [.lit (.bool false)], args := [d] }
  | _ => none }
def RecordReadsWrongFalsely : Prop := recordReadsRow.holds Try.pinned (OpenSpec.ofChange recordReadsWrong)

/-- 'keelsonlaw7.RecordBack': WHATEVER THE INPUT: true; the input reads as it did. -/
def recordBackSpec : ChangeSpec := { name := "recordBack", fn := fun _ => fun
  | [d1, d2, d3, d4] => { results := [.lit (.bool true)], args := [d1, d2, d3, d4] }
  | _ => none }
def recordBackRow : OpenClaim := { program := "ytjmbhknokobnpaa", sum := "6dc90eded332b0b4777d220c41df4a50ecb220779e9e18cc32416c7f294e9c77", func := "keelson/keelsonlaw7.RecordBack", spec := "recordBack", unfollowed := true, recurses := true, apart := false }
def RecordBackSaid : Prop := recordBackRow.holds Try.pinned (OpenSpec.ofChange recordBackSpec)

/-- ITS FALSE NEIGHBOUR: 'it returns false'. Refute it at one input. -/
def recordBackWrong : ChangeSpec := { name := "recordBack", fn := fun _ => fun
  | [d1, d2, d3, d4] => { results := [.lit (.bool false)], args := [d1, d2, d3, d4] }
  | _ => none }
def RecordBackWrongFalsely : Prop := recordBackRow.holds Try.pinned (OpenSpec.ofChange recordBackWrong)

/-- 'keelsonlaw7.RecordSpoilt': WHATEVER THE INPUT: true; the input reads as it did. -/
def recordSpoiltSpec : ChangeSpec := { name := "recordSpoilt", fn := fun _ => fun
  | [d1, d2, d3, d4, d5, d6] => { results := [.lit (.bool true)], args := [d1, d2, d3, d4, d5, d6] }
  | _ => none }
def recordSpoiltRow : OpenClaim := { program := "ytjmbhknokobnpaa", sum := "6dc90eded332b0b4777d220c41df4a50ecb220779e9e18cc32416c7f294e9c77", func := "keelson/keelsonlaw7.RecordSpoilt", spec := "recordSpoilt", unfollowed := true, recurses := true, apart := false }
def RecordSpoiltSaid : Prop := recordSpoiltRow.holds Try.pinned (OpenSpec.ofChange recordSpoiltSpec)

/-- ITS FALSE NEIGHBOUR: 'it returns false'. Refute it at one input. -/
def recordSpoiltWrong : ChangeSpec := { name := "recordSpoilt", fn := fun _ => fun
  | [d1, d2, d3, d4, d5, d6] => { results := [.lit (.bool false)], args := [d1, d2, d3, d4, d5, d6] }
  | _ => none }
def RecordSpoiltWrongFalsely : Prop := recordSpoiltRow.holds Try.pinned (OpenSpec.ofChange recordSpoiltWrong)

/-- 'keelsonlaw7.RecordTorn': WHATEVER THE INPUT: true; the input reads as it did. -/
def recordTornSpec : ChangeSpec := { name := "recordTorn", fn := fun _ => fun
  | [d1, d2, d3, d4] => { results := [.lit (.bool true)], args := [d1, d2, d3, d4] }
  | _ => none }
def recordTornRow : OpenClaim := { program := "ytjmbhknokobnpaa", sum := "6dc90eded332b0b4777d220c41df4a50ecb220779e9e18cc32416c7f294e9c77", func := "keelson/keelsonlaw7.RecordTorn", spec := "recordTorn", unfollowed := true, recurses := true, apart := false }
def RecordTornSaid : Prop := recordTornRow.holds Try.pinned (OpenSpec.ofChange recordTornSpec)

/-- ITS FALSE NEIGHBOUR: 'it returns false'. Refute it at one input. -/
def recordTornWrong : ChangeSpec := { name := "recordTorn", fn := fun _ => fun
  | [d1, d2, d3, d4] => { results := [.lit (.bool false)], args := [d1, d2, d3, d4] }
  | _ => none }
def RecordTornWrongFalsely : Prop := recordTornRow.holds Try.pinned (OpenSpec.ofChange recordTornWrong)

/- THE SECOND FORM. 'bulk': how many values and letters a reading holds, each counted each time it is reached (what is shared counts as often as it is met; a slice's spare places count too). A statement '..UptoSaid' is the law's where the arguments, and the package variables that the reading takes, are together of bulk at most 1048576: NARROWER than '..Said'. Prove '..Said' where nothing that the law and all that it calls make is longer than what came in: it says more and counts as full. Else prove '..UptoSaid'. A law counts once. -/
mutual
def uptoBulk {H : Type} : DataW H → Nat
  | .lit (.string bytes) => bytes.length + 1
  | .lit _ => 1
  | .nil => 1
  | .ptr d => uptoBulk d + 1
  | .slice elems spare => uptoBulkAll elems + uptoBulkAll spare + 1
  | .agg parts => uptoBulkAll parts + 1
  | .iface _ d => uptoBulk d + 1
  | .map entries => uptoBulkEntries entries + 1
  | .held _ => 1
def uptoBulkAll {H : Type} : List (DataW H) → Nat
  | [] => 0
  | d :: r => uptoBulk d + uptoBulkAll r
def uptoBulkEntries {H : Type} : List (Lit × DataW H) → Nat
  | [] => 0
  | x :: r => uptoBulkEntry x + uptoBulkEntries r
def uptoBulkEntry {H : Type} : Lit × DataW H → Nat
  | (.string bytes, d) => bytes.length + uptoBulk d + 1
  | (_, d) => uptoBulk d + 1
 end
def uptoSmall : (H : Type) → List (DataW H) → Bool := fun _ ds => decide (uptoBulkAll ds ≤ 1048576)
def OpenSpec.upto (s : _root_.Go.ChangeSpec) : _root_.Go.OpenSpec := { _root_.Go.OpenSpec.ofChange s with cond := some uptoSmall }

/-- 'keelsonlaw5.SuperSpoilt', WHERE WHAT IT READS IS OF BULK AT MOST 1048576: true; the input reads as it did. -/
def superSpoiltUptoRow : OpenClaim := { program := "ytjmbhknokobnpaa", sum := "6dc90eded332b0b4777d220c41df4a50ecb220779e9e18cc32416c7f294e9c77", func := "keelson/keelsonlaw5.SuperSpoilt", spec := "superSpoilt", apart := false, narrowed := true }
def SuperSpoiltUptoSaid : Prop := superSpoiltUptoRow.holds Try.pinned (OpenSpec.upto superSpoiltSpec)

/-- 'keelsonlaw5.SuperChooses', WHERE WHAT IT READS IS OF BULK AT MOST 1048576: true; the input reads as it did. -/
def superChoosesUptoRow : OpenClaim := { program := "ytjmbhknokobnpaa", sum := "6dc90eded332b0b4777d220c41df4a50ecb220779e9e18cc32416c7f294e9c77", func := "keelson/keelsonlaw5.SuperChooses", spec := "superChooses", apart := false, narrowed := true }
def SuperChoosesUptoSaid : Prop := superChoosesUptoRow.holds Try.pinned (OpenSpec.upto superChoosesSpec)

/-- 'keelsonlaw30.ScriptTells', WHERE WHAT IT READS IS OF BULK AT MOST 1048576: true; the input reads as it did. -/
def scriptTellsUptoRow : OpenClaim := { program := "ytjmbhknokobnpaa", sum := "6dc90eded332b0b4777d220c41df4a50ecb220779e9e18cc32416c7f294e9c77", func := "keelson/keelsonlaw30.ScriptTells", spec := "scriptTells", unfollowed := true, recurses := true, apart := false, narrowed := true }
def ScriptTellsUptoSaid : Prop := scriptTellsUptoRow.holds Try.pinned (OpenSpec.upto scriptTellsSpec)

/-- 'keelsonlaw30.ScriptBack', WHERE WHAT IT READS IS OF BULK AT MOST 1048576: true; the input reads as it did. -/
def scriptBackUptoRow : OpenClaim := { program := "ytjmbhknokobnpaa", sum := "6dc90eded332b0b4777d220c41df4a50ecb220779e9e18cc32416c7f294e9c77", func := "keelson/keelsonlaw30.ScriptBack", spec := "scriptBack", unfollowed := true, recurses := true, apart := false, narrowed := true }
def ScriptBackUptoSaid : Prop := scriptBackUptoRow.holds Try.pinned (OpenSpec.upto scriptBackSpec)

/-- 'keelsonlaw30.ScriptSpoilt', WHERE WHAT IT READS IS OF BULK AT MOST 1048576: true; the input reads as it did. -/
def scriptSpoiltUptoRow : OpenClaim := { program := "ytjmbhknokobnpaa", sum := "6dc90eded332b0b4777d220c41df4a50ecb220779e9e18cc32416c7f294e9c77", func := "keelson/keelsonlaw30.ScriptSpoilt", spec := "scriptSpoilt", unfollowed := true, recurses := true, apart := false, narrowed := true }
def ScriptSpoiltUptoSaid : Prop := scriptSpoiltUptoRow.holds Try.pinned (OpenSpec.upto scriptSpoiltSpec)

/-- 'keelsonlaw30.ScriptParts', WHERE WHAT IT READS IS OF BULK AT MOST 1048576: true; the input reads as it did. -/
def scriptPartsUptoRow : OpenClaim := { program := "ytjmbhknokobnpaa", sum := "6dc90eded332b0b4777d220c41df4a50ecb220779e9e18cc32416c7f294e9c77", func := "keelson/keelsonlaw30.ScriptParts", spec := "scriptParts", unfollowed := true, recurses := true, apart := false, narrowed := true }
def ScriptPartsUptoSaid : Prop := scriptPartsUptoRow.holds Try.pinned (OpenSpec.upto scriptPartsSpec)

/-- 'keelsonlaw30.ScriptLimits', WHERE WHAT IT READS IS OF BULK AT MOST 1048576: true; the input reads as it did. -/
def scriptLimitsUptoRow : OpenClaim := { program := "ytjmbhknokobnpaa", sum := "6dc90eded332b0b4777d220c41df4a50ecb220779e9e18cc32416c7f294e9c77", func := "keelson/keelsonlaw30.ScriptLimits", spec := "scriptLimits", unfollowed := true, recurses := true, apart := false, narrowed := true }
def ScriptLimitsUptoSaid : Prop := scriptLimitsUptoRow.holds Try.pinned (OpenSpec.upto scriptLimitsSpec)

/-- 'keelsonlaw22.FrameTells', WHERE WHAT IT READS IS OF BULK AT MOST 1048576: true; the input reads as it did. -/
def frameTellsUptoRow : OpenClaim := { program := "ytjmbhknokobnpaa", sum := "6dc90eded332b0b4777d220c41df4a50ecb220779e9e18cc32416c7f294e9c77", func := "keelson/keelsonlaw22.FrameTells", spec := "frameTells", apart := false, narrowed := true }
def FrameTellsUptoSaid : Prop := frameTellsUptoRow.holds Try.pinned (OpenSpec.upto frameTellsSpec)

/-- 'keelsonlaw22.FrameSpoilt', WHERE WHAT IT READS IS OF BULK AT MOST 1048576: true; the input reads as it did. -/
def frameSpoiltUptoRow : OpenClaim := { program := "ytjmbhknokobnpaa", sum := "6dc90eded332b0b4777d220c41df4a50ecb220779e9e18cc32416c7f294e9c77", func := "keelson/keelsonlaw22.FrameSpoilt", spec := "frameSpoilt", apart := false, narrowed := true }
def FrameSpoiltUptoSaid : Prop := frameSpoiltUptoRow.holds Try.pinned (OpenSpec.upto frameSpoiltSpec)

/-- 'keelsonlaw22.FrameOps', WHERE WHAT IT READS IS OF BULK AT MOST 1048576: true; the input reads as it did. -/
def frameOpsUptoRow : OpenClaim := { program := "ytjmbhknokobnpaa", sum := "6dc90eded332b0b4777d220c41df4a50ecb220779e9e18cc32416c7f294e9c77", func := "keelson/keelsonlaw22.FrameOps", spec := "frameOps", apart := false, narrowed := true }
def FrameOpsUptoSaid : Prop := frameOpsUptoRow.holds Try.pinned (OpenSpec.upto frameOpsSpec)

/-- 'keelsonlaw22.FrameBack', WHERE WHAT IT READS IS OF BULK AT MOST 1048576: true; the input reads as it did. -/
def frameBackUptoRow : OpenClaim := { program := "ytjmbhknokobnpaa", sum := "6dc90eded332b0b4777d220c41df4a50ecb220779e9e18cc32416c7f294e9c77", func := "keelson/keelsonlaw22.FrameBack", spec := "frameBack", apart := false, narrowed := true }
def FrameBackUptoSaid : Prop := frameBackUptoRow.holds Try.pinned (OpenSpec.upto frameBackSpec)

/-- 'keelsonlaw9.RegionTells', WHERE WHAT IT READS IS OF BULK AT MOST 1048576: true; the input reads as it did. -/
def regionTellsUptoRow : OpenClaim := { program := "ytjmbhknokobnpaa", sum := "6dc90eded332b0b4777d220c41df4a50ecb220779e9e18cc32416c7f294e9c77", func := "keelson/keelsonlaw9.RegionTells", spec := "regionTells", unfollowed := true, recurses := true, apart := false, narrowed := true }
def RegionTellsUptoSaid : Prop := regionTellsUptoRow.holds Try.pinned (OpenSpec.upto regionTellsSpec)

/-- 'keelsonlaw9.RegionReads', WHERE WHAT IT READS IS OF BULK AT MOST 1048576: true; the input reads as it did. -/
def regionReadsUptoRow : OpenClaim := { program := "ytjmbhknokobnpaa", sum := "6dc90eded332b0b4777d220c41df4a50ecb220779e9e18cc32416c7f294e9c77", func := "keelson/keelsonlaw9.RegionReads", spec := "regionReads", unfollowed := true, recurses := true, apart := false, narrowed := true }
def RegionReadsUptoSaid : Prop := regionReadsUptoRow.holds Try.pinned (OpenSpec.upto regionReadsSpec)

/-- 'keelsonlaw9.RegionBack', WHERE WHAT IT READS IS OF BULK AT MOST 1048576: true; the input reads as it did. -/
def regionBackUptoRow : OpenClaim := { program := "ytjmbhknokobnpaa", sum := "6dc90eded332b0b4777d220c41df4a50ecb220779e9e18cc32416c7f294e9c77", func := "keelson/keelsonlaw9.RegionBack", spec := "regionBack", unfollowed := true, recurses := true, apart := false, narrowed := true }
def RegionBackUptoSaid : Prop := regionBackUptoRow.holds Try.pinned (OpenSpec.upto regionBackSpec)

/-- 'keelsonlaw9.RegionChooses', WHERE WHAT IT READS IS OF BULK AT MOST 1048576: true; the input reads as it did. -/
def regionChoosesUptoRow : OpenClaim := { program := "ytjmbhknokobnpaa", sum := "6dc90eded332b0b4777d220c41df4a50ecb220779e9e18cc32416c7f294e9c77", func := "keelson/keelsonlaw9.RegionChooses", spec := "regionChooses", unfollowed := true, recurses := true, apart := false, narrowed := true }
def RegionChoosesUptoSaid : Prop := regionChoosesUptoRow.holds Try.pinned (OpenSpec.upto regionChoosesSpec)

/-- 'keelsonlaw7.RecordTells', WHERE WHAT IT READS IS OF BULK AT MOST 1048576: true; the input reads as it did. -/
def recordTellsUptoRow : OpenClaim := { program := "ytjmbhknokobnpaa", sum := "6dc90eded332b0b4777d220c41df4a50ecb220779e9e18cc32416c7f294e9c77", func := "keelson/keelsonlaw7.RecordTells", spec := "recordTells", unfollowed := true, recurses := true, apart := false, narrowed := true }
def RecordTellsUptoSaid : Prop := recordTellsUptoRow.holds Try.pinned (OpenSpec.upto recordTellsSpec)

/-- 'keelsonlaw7.RecordReads', WHERE WHAT IT READS IS OF BULK AT MOST 1048576: true; the input reads as it did. -/
def recordReadsUptoRow : OpenClaim := { program := "ytjmbhknokobnpaa", sum := "6dc90eded332b0b4777d220c41df4a50ecb220779e9e18cc32416c7f294e9c77", func := "keelson/keelsonlaw7.RecordReads", spec := "recordReads", unfollowed := true, recurses := true, apart := false, narrowed := true }
def RecordReadsUptoSaid : Prop := recordReadsUptoRow.holds Try.pinned (OpenSpec.upto recordReadsSpec)

/-- 'keelsonlaw7.RecordBack', WHERE WHAT IT READS IS OF BULK AT MOST 1048576: true; the input reads as it did. -/
def recordBackUptoRow : OpenClaim := { program := "ytjmbhknokobnpaa", sum := "6dc90eded332b0b4777d220c41df4a50ecb220779e9e18cc32416c7f294e9c77", func := "keelson/keelsonlaw7.RecordBack", spec := "recordBack", unfollowed := true, recurses := true, apart := false, narrowed := true }
def RecordBackUptoSaid : Prop := recordBackUptoRow.holds Try.pinned (OpenSpec.upto recordBackSpec)

/-- 'keelsonlaw7.RecordSpoilt', WHERE WHAT IT READS IS OF BULK AT MOST 1048576: true; the input reads as it did. -/
def recordSpoiltUptoRow : OpenClaim := { program := "ytjmbhknokobnpaa", sum := "6dc90eded332b0b4777d220c41df4a50ecb220779e9e18cc32416c7f294e9c77", func := "keelson/keelsonlaw7.RecordSpoilt", spec := "recordSpoilt", unfollowed := true, recurses := true, apart := false, narrowed := true }
def RecordSpoiltUptoSaid : Prop := recordSpoiltUptoRow.holds Try.pinned (OpenSpec.upto recordSpoiltSpec)

/-- 'keelsonlaw7.RecordTorn', WHERE WHAT IT READS IS OF BULK AT MOST 1048576: true; the input reads as it did. -/
def recordTornUptoRow : OpenClaim := { program := "ytjmbhknokobnpaa", sum := "6dc90eded332b0b4777d220c41df4a50ecb220779e9e18cc32416c7f294e9c77", func := "keelson/keelsonlaw7.RecordTorn", spec := "recordTorn", unfollowed := true, recurses := true, apart := false, narrowed := true }
def RecordTornUptoSaid : Prop := recordTornUptoRow.holds Try.pinned (OpenSpec.upto recordTornSpec)

end Rows
end Go.Proofs.Ytjmbhknokobnpaa
