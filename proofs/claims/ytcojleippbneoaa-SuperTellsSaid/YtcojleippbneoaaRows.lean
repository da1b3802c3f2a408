/-
  No cell of these rows narrows 'for every input' (looked for: loops, veiled, ifaces, maps, wideKeys, modest, calm, conditions, laid).
  DERIVED. THE GIVEN ROWS OF THIS SEAT. 16 by the template 'for every input the law returns true; each argument reads behind the call as it read before'; 0 by the template 'total and deterministic' (their statements: YtcojleippbneoaaTotals.lean).
  GIVEN WITH THE SEED: the statements are not yours to turn. If you find one false, say at which input.
  Laid BY PROGRAM, IN A SANDBOX (cutbox-rows.mjs): the forced cells as the released guide's own fill.sh prints them over the translation 11922c0931964f37… (all of the seat's roots in one cut). By AI agents, Wed Nov 11 2026. No macro, syntax, notation, axiom, sorry.
-/
import Derived.Test.YtcojleippbneoaaChecked
import GoSem.Claim
import GoSem.ClaimJoined
import GoSem.ClaimMapViews
import Derived.JoinedTies
import Derived.KernelRfl
namespace Go.Proofs.Ytcojleippbneoaa
/- THE CELL 'sum', in the pinned program and in every row, IS THE sha256 OF THE DUMP (.gsa) THAT YtcojleippbneoaaProg.lean LOADS. Nothing in Lean hashes anything: it is a label: what it is worth is what the hold of that sum in a sandbox is worth. -/
noncomputable def Try.pinned : Pinned := { name := "ytcojleippbneoaa", sum := "11922c0931964f3701dc5212939eba40c55df709d2e09d14fd758925a40a4889", checked := Try.checked }
namespace Rows
def none {H : Type} : Left H := { results := [], args := [] }

/-- 'keelsonlaw1.RowBack': WHATEVER THE INPUT: true; the input reads as it did. -/
def rowBackSpec : ChangeSpec := { name := "rowBack", fn := fun _ => fun
  | [d1, d2, d3] => { results := [.lit (.bool true)], args := [d1, d2, d3] }
  | _ => none }
def rowBackRow : OpenClaim := { program := "ytcojleippbneoaa", sum := "11922c0931964f3701dc5212939eba40c55df709d2e09d14fd758925a40a4889", func := "keelson/keelsonlaw1.RowBack", spec := "rowBack", apart := false }
def RowBackSaid : Prop := rowBackRow.holds Try.pinned (OpenSpec.ofChange rowBackSpec)

/-- ITS FALSE NEIGHBOUR: 'it returns false'. Refute it at one input. -/
def rowBackWrong : ChangeSpec := { name := "rowBack", fn := fun _ => fun
  | [d1, d2, d3] => { results := [.lit (.bool false)], args := [d1, d2, d3] }
  | _ => none }
def RowBackWrongFalsely : Prop := rowBackRow.holds Try.pinned (OpenSpec.ofChange rowBackWrong)

/-- 'keelsonlaw1.RowSpoilt': WHATEVER THE INPUT: true; the input reads as it did. -/
def rowSpoiltSpec : ChangeSpec := { name := "rowSpoilt", fn := fun _ => fun
  | [d1, d2, d3] => { results := [.lit (.bool true)], args := [d1, d2, d3] }
  | _ => none }
def rowSpoiltRow : OpenClaim := { program := "ytcojleippbneoaa", sum := "11922c0931964f3701dc5212939eba40c55df709d2e09d14fd758925a40a4889", func := "keelson/keelsonlaw1.RowSpoilt", spec := "rowSpoilt", apart := false }
def RowSpoiltSaid : Prop := rowSpoiltRow.holds Try.pinned (OpenSpec.ofChange rowSpoiltSpec)

/-- ITS FALSE NEIGHBOUR: 'it returns false'. Refute it at one input. -/
def rowSpoiltWrong : ChangeSpec := { name := "rowSpoilt", fn := fun _ => fun
  | [d1, d2, d3] => { results := [.lit (.bool false)], args := [d1, d2, d3] }
  | _ => none }
def RowSpoiltWrongFalsely : Prop := rowSpoiltRow.holds Try.pinned (OpenSpec.ofChange rowSpoiltWrong)

/-- 'keelsonlaw1.RowBytes': WHATEVER THE INPUT: true; the input reads as it did. -/
def rowBytesSpec : ChangeSpec := { name := "rowBytes", fn := fun _ => fun
  | [d1, d2, d3] => { results := [.lit (.bool true)], args := [d1, d2, d3] }
  | _ => none }
def rowBytesRow : OpenClaim := { program := "ytcojleippbneoaa", sum := "11922c0931964f3701dc5212939eba40c55df709d2e09d14fd758925a40a4889", func := "keelson/keelsonlaw1.RowBytes", spec := "rowBytes", apart := false }
def RowBytesSaid : Prop := rowBytesRow.holds Try.pinned (OpenSpec.ofChange rowBytesSpec)

/-- ITS FALSE NEIGHBOUR: 'it returns false'. Refute it at one input. -/
def rowBytesWrong : ChangeSpec := { name := "rowBytes", fn := fun _ => fun
  | [d1, d2, d3] => { results := [.lit (.bool false)], args := [d1, d2, d3] }
  | _ => none }
def RowBytesWrongFalsely : Prop := rowBytesRow.holds Try.pinned (OpenSpec.ofChange rowBytesWrong)

/-- 'keelsonlaw1.RowPlays': WHATEVER THE INPUT: true; the input reads as it did. -/
def rowPlaysSpec : ChangeSpec := { name := "rowPlays", fn := fun _ => fun
  | [d1, d2] => { results := [.lit (.bool true)], args := [d1, d2] }
  | _ => none }
def rowPlaysRow : OpenClaim := { program := "ytcojleippbneoaa", sum := "11922c0931964f3701dc5212939eba40c55df709d2e09d14fd758925a40a4889", func := "keelson/keelsonlaw1.RowPlays", spec := "rowPlays", apart := false }
def RowPlaysSaid : Prop := rowPlaysRow.holds Try.pinned (OpenSpec.ofChange rowPlaysSpec)

/-- ITS FALSE NEIGHBOUR: 'it returns false'. Refute it at one input. -/
def rowPlaysWrong : ChangeSpec := { name := "rowPlays", fn := fun _ => fun
  | [d1, d2] => { results := [.lit (.bool false)], args := [d1, d2] }
  | _ => none }
def RowPlaysWrongFalsely : Prop := rowPlaysRow.holds Try.pinned (OpenSpec.ofChange rowPlaysWrong)

/-- 'keelsonlaw6.ItemTells': WHATEVER THE INPUT: true; the input reads as it did. -/
def itemTellsSpec : ChangeSpec := { name := "itemTells", fn := fun _ => fun
  | [d] => { results := [.lit (.bool true)], args := [d] }
  | _ => none }
def itemTellsRow : OpenClaim := { program := "ytcojleippbneoaa", sum := "11922c0931964f3701dc5212939eba40c55df709d2e09d14fd758925a40a4889", func := "keelson/keelsonlaw6.ItemTells", spec := "itemTells", apart := false }
def ItemTellsSaid : Prop := itemTellsRow.holds Try.pinned (OpenSpec.ofChange itemTellsSpec)

/-- ITS FALSE NEIGHBOUR: 'it returns false'. Refute it at one input. -/
def itemTellsWrong : ChangeSpec := { name := "itemTells", fn := fun _ => fun
  | [d] => { results := [.lit (.bool false)], args := [d] }
  | _ => none }
def ItemTellsWrongFalsely : Prop := itemTellsRow.holds Try.pinned (OpenSpec.ofChange itemTellsWrong)

/-- 'keelsonlaw6.ItemReads': WHATEVER THE INPUT: true; the input reads as it did. -/
def itemReadsSpec : ChangeSpec := { name := "itemReads", fn := fun _ => fun
  | [d] => { results := [.lit (.bool true)], args := [d] }
  | _ => none }
def itemReadsRow : OpenClaim := { program := "ytcojleippbneoaa", sum := "11922c0931964f3701dc5212939eba40c55df709d2e09d14fd758925a40a4889", func := "keelson/keelsonlaw6.ItemReads", spec := "itemReads", apart := false }
def ItemReadsSaid : Prop := itemReadsRow.holds Try.pinned (OpenSpec.ofChange itemReadsSpec)

/-- ITS FALSE NEIGHBOUR: 'it returns false'. Refute it at one input. -/
def itemReadsWrong : ChangeSpec := { name := "itemReads", fn := fun _ => fun
  | [d] => { results := [.lit (.bool false)], args := [d] }
  | _ => none }
def ItemReadsWrongFalsely : Prop := itemReadsRow.holds Try.pinned (OpenSpec.ofChange itemReadsWrong)

/-- 'keelsonlaw6.ItemBack': WHATEVER THE INPUT: true; the input reads as it did. -/
def itemBackSpec : ChangeSpec := { name := "itemBack", fn := fun _ => fun
  | [d1, d2] => { results := [.lit (.bool true)], args := [d1, d2] }
  | _ => none }
def itemBackRow : OpenClaim := { program := "ytcojleippbneoaa", sum := "11922c0931964f3701dc5212939eba40c55df709d2e09d14fd758925a40a4889", func := "keelson/keelsonlaw6.ItemBack", spec := "itemBack", apart := false }
def ItemBackSaid : Prop := itemBackRow.holds Try.pinned (OpenSpec.ofChange itemBackSpec)

/-- ITS FALSE NEIGHBOUR: 'it returns false'. Refute it at one input. -/
def itemBackWrong : ChangeSpec := { name := "itemBack", fn := fun _ => fun
  | [d1, d2] => { results := [.lit (.bool false)], args := [d1, d2] }
  | _ => none }
def ItemBackWrongFalsely : Prop := itemBackRow.holds Try.pinned (OpenSpec.ofChange itemBackWrong)

/-- 'keelsonlaw6.ItemMany': WHATEVER THE INPUT: true; the input reads as it did. -/
def itemManySpec : ChangeSpec := { name := "itemMany", fn := fun _ => fun
  | [d1, d2] => { results := [.lit (.bool true)], args := [d1, d2] }
  | _ => none }
def itemManyRow : OpenClaim := { program := "ytcojleippbneoaa", sum := "11922c0931964f3701dc5212939eba40c55df709d2e09d14fd758925a40a4889", func := "keelson/keelsonlaw6.ItemMany", spec := "itemMany", apart := false }
def ItemManySaid : Prop := itemManyRow.holds Try.pinned (OpenSpec.ofChange itemManySpec)

/-- ITS FALSE NEIGHBOUR: 'it returns false'. Refute it at one input. -/
def itemManyWrong : ChangeSpec := { name := "itemMany", fn := fun _ => fun
  | [d1, d2] => { results := [.lit (.bool false)], args := [d1, d2] }
  | _ => none }
def ItemManyWrongFalsely : Prop := itemManyRow.holds Try.pinned (OpenSpec.ofChange itemManyWrong)

/-- 'keelsonlaw10.PageTells': WHATEVER THE INPUT: true; the input reads as it did. -/
def pageTellsSpec : ChangeSpec := { name := "pageTells", fn := fun _ => fun
  | [d1, d2] => { results := [.lit (.bool true)], args := [d1, d2] }
  | _ => none }
def pageTellsRow : OpenClaim := { program := "ytcojleippbneoaa", sum := "11922c0931964f3701dc5212939eba40c55df709d2e09d14fd758925a40a4889", func := "keelson/keelsonlaw10.PageTells", spec := "pageTells", apart := false }
def PageTellsSaid : Prop := pageTellsRow.holds Try.pinned (OpenSpec.ofChange pageTellsSpec)

/-- ITS FALSE NEIGHBOUR: 'it returns false'. Refute it at one input. -/
def pageTellsWrong : ChangeSpec := { name := "pageTells", fn := fun _ => fun
  | [d1, d2] => { results := [.lit (.bool false)], args := [d1, d2] }
  | _ => none }
def PageTellsWrongFalsely : Prop := pageTellsRow.holds Try.pinned (OpenSpec.ofChange pageTellsWrong)

/-- 'keelsonlaw10.PageBack': WHATEVER THE INPUT: true; the input reads as it did. -/
def pageBackSpec : ChangeSpec := { name := "pageBack", fn := fun _ => fun
  | [d1, d2, d3] => { results := [.lit (.bool true)], args := [d1, d2, d3] }
  | _ => none }
def pageBackRow : OpenClaim := { program := "ytcojleippbneoaa", sum := "11922c0931964f3701dc5212939eba40c55df709d2e09d14fd758925a40a4889", func := "keelson/keelsonlaw10.PageBack", spec := "pageBack", apart := false }
def PageBackSaid : Prop := pageBackRow.holds Try.pinned (OpenSpec.ofChange pageBackSpec)

/-- ITS FALSE NEIGHBOUR: 'it returns false'. Refute it at one input. -/
def pageBackWrong : ChangeSpec := { name := "pageBack", fn := fun _ => fun
  | [d1, d2, d3] => { results := [.lit (.bool false)], args := [d1, d2, d3] }
  | _ => none }
def PageBackWrongFalsely : Prop := pageBackRow.holds Try.pinned (OpenSpec.ofChange pageBackWrong)

/-- 'keelsonlaw10.PageBad': WHATEVER THE INPUT: true; the input reads as it did. -/
def pageBadSpec : ChangeSpec := { name := "pageBad", fn := fun _ => fun
  | [d1, d2, d3] => { results := [.lit (.bool true)], args := [d1, d2, d3] }
  | _ => none }
def pageBadRow : OpenClaim := { program := "ytcojleippbneoaa", sum := "11922c0931964f3701dc5212939eba40c55df709d2e09d14fd758925a40a4889", func := "keelson/keelsonlaw10.PageBad", spec := "pageBad", apart := false }
def PageBadSaid : Prop := pageBadRow.holds Try.pinned (OpenSpec.ofChange pageBadSpec)

/-- ITS FALSE NEIGHBOUR: 'it returns false'. Refute it at one input. -/
def pageBadWrong : ChangeSpec := { name := "pageBad", fn := fun _ => fun
  | [d1, d2, d3] => { results := [.lit (.bool false)], args := [d1, d2, d3] }
  | _ => none }
def PageBadWrongFalsely : Prop := pageBadRow.holds Try.pinned (OpenSpec.ofChange pageBadWrong)

/-- 'keelsonlaw8.HeadTells': WHATEVER THE INPUT: true; the input reads as it did. -/
def headTellsSpec : ChangeSpec := { name := "headTells", fn := fun _ => fun
  | [d1, d2, d3] => { results := [.lit (.bool true)], args := [d1, d2, d3] }
  | _ => none }
def headTellsRow : OpenClaim := { program := "ytcojleippbneoaa", sum := "11922c0931964f3701dc5212939eba40c55df709d2e09d14fd758925a40a4889", func := "keelson/keelsonlaw8.HeadTells", spec := "headTells", apart := false }
def HeadTellsSaid : Prop := headTellsRow.holds Try.pinned (OpenSpec.ofChange headTellsSpec)

/-- ITS FALSE NEIGHBOUR: 'it returns false'. Refute it at one input. -/
def headTellsWrong : ChangeSpec := { name := "headTells", fn := fun _ => fun
  | [d1, d2, d3] => { results := [.lit (.bool false)], args := [d1, d2, d3] }
  | _ => none }
def HeadTellsWrongFalsely : Prop := headTellsRow.holds Try.pinned (OpenSpec.ofChange headTellsWrong)

/-- 'keelsonlaw8.HeadBack': WHATEVER THE INPUT: true; the input reads as it did. -/
def headBackSpec : ChangeSpec := { name := "headBack", fn := fun _ => fun
  | [d1, d2, d3] => { results := [.lit (.bool true)], args := [d1, d2, d3] }
  | _ => none }
def headBackRow : OpenClaim := { program := "ytcojleippbneoaa", sum := "11922c0931964f3701dc5212939eba40c55df709d2e09d14fd758925a40a4889", func := "keelson/keelsonlaw8.HeadBack", spec := "headBack", apart := false }
def HeadBackSaid : Prop := headBackRow.holds Try.pinned (OpenSpec.ofChange headBackSpec)

/-- ITS FALSE NEIGHBOUR: 'it returns false'. Refute it at one input. -/
def headBackWrong : ChangeSpec := { name := "headBack", fn := fun _ => fun
  | [d1, d2, d3] => { results := [.lit (.bool false)], args := [d1, d2, d3] }
  | _ => none }
def HeadBackWrongFalsely : Prop := headBackRow.holds Try.pinned (OpenSpec.ofChange headBackWrong)

/-- 'keelsonlaw8.HeadFits': WHATEVER THE INPUT: true; the input reads as it did. -/
def headFitsSpec : ChangeSpec := { name := "headFits", fn := fun _ => fun
  | [d1, d2, d3, d4] => { results := [.lit (.bool true)], args := [d1, d2, d3, d4] }
  | _ => none }
def headFitsRow : OpenClaim := { program := "ytcojleippbneoaa", sum := "11922c0931964f3701dc5212939eba40c55df709d2e09d14fd758925a40a4889", func := "keelson/keelsonlaw8.HeadFits", spec := "headFits", apart := false }
def HeadFitsSaid : Prop := headFitsRow.holds Try.pinned (OpenSpec.ofChange headFitsSpec)

/-- ITS FALSE NEIGHBOUR: 'it returns false'. Refute it at one input. -/
def headFitsWrong : ChangeSpec := { name := "headFits", fn := fun _ => fun
  | [d1, d2, d3, d4] => { results := [.lit (.bool false)], args := [d1, d2, d3, d4] }
  | _ => none }
def HeadFitsWrongFalsely : Prop := headFitsRow.holds Try.pinned (OpenSpec.ofChange headFitsWrong)

/-- 'keelsonlaw5.SuperTells': WHATEVER THE INPUT: true; the input reads as it did. -/
def superTellsSpec : ChangeSpec := { name := "superTells", fn := fun _ => fun
  | [d1, d2] => { results := [.lit (.bool true)], args := [d1, d2] }
  | _ => none }
def superTellsRow : OpenClaim := { program := "ytcojleippbneoaa", sum := "11922c0931964f3701dc5212939eba40c55df709d2e09d14fd758925a40a4889", func := "keelson/keelsonlaw5.SuperTells", spec := "superTells", apart := false }
def SuperTellsSaid : Prop := superTellsRow.holds Try.pinned (OpenSpec.ofChange superTellsSpec)

/-- ITS FALSE NEIGHBOUR: 'it returns false'. Refute it at one input. -/
def superTellsWrong : ChangeSpec := { name := "superTells", fn := fun _ => fun
  | [d1, d2] => { results := [.lit (.bool false)], args := [d1, d2] }
  | _ => none }
def SuperTellsWrongFalsely : Prop := superTellsRow.holds Try.pinned (OpenSpec.ofChange superTellsWrong)

/-- 'keelsonlaw5.SuperBack': WHATEVER THE INPUT: true; the input reads as it did. -/
def superBackSpec : ChangeSpec := { name := "superBack", fn := fun _ => fun
  | [d1, d2, d3] => { results := [.lit (.bool true)], args := [d1, d2, d3] }
  | _ => none }
def superBackRow : OpenClaim := { program := "ytcojleippbneoaa", sum := "11922c0931964f3701dc5212939eba40c55df709d2e09d14fd758925a40a4889", func := "keelson/keelsonlaw5.SuperBack", spec := "superBack", apart := false }
def SuperBackSaid : Prop := superBackRow.holds Try.pinned (OpenSpec.ofChange superBackSpec)

/-- ITS FALSE NEIGHBOUR: 'it returns false'. Refute it at one input. -/
def superBackWrong : ChangeSpec := { name := "superBack", fn := fun _ => fun
  | [d1, d2, d3] => { results := [.lit (.bool false)], args := [d1, d2, d3] }
  | _ => none }
def SuperBackWrongFalsely : Prop := superBackRow.holds Try.pinned (OpenSpec.ofChange superBackWrong)

/- THE SECOND FORM. 'bulk': how many values and letters a reading holds, each counted each time it is reached (what is shared counts as often as it is met; a slice's spare places count too). A statement '..UptoSaid' is the law's where the arguments, and the package variables that the reading takes, are together of bulk at most 1048576: NARROWER than '..Said'. Prove '..Said' where nothing that the law and all that it calls make is longer than what came in: it says more and counts as full. Else prove '..UptoSaid'. A law counts once. -/
mutual
def uptoBulk {H : Type} : DataW H → Nat
  | .lit (.string bytes) => bytes.length + 1
  | .lit _ => 1
  | .nil => 1
  | .ptr d => uptoBulk d + 1
  | .slice elems spare => uptoBulkAll elems + uptoBulkAll spare + 1
  | .agg parts => uptoBulkAll parts + 1
  | .iface _ d => uptoBulk d + 1
  | .map entries => uptoBulkEntries entries + 1
  | .held _ => 1
def uptoBulkAll {H : Type} : List (DataW H) → Nat
  | [] => 0
  | d :: r => uptoBulk d + uptoBulkAll r
def uptoBulkEntries {H : Type} : List (Lit × DataW H) → Nat
  | [] => 0
  | x :: r => uptoBulkEntry x + uptoBulkEntries r
def uptoBulkEntry {H : Type} : Lit × DataW H → Nat
  | (.string bytes, d) => bytes.length + uptoBulk d + 1
  | (_, d) => uptoBulk d + 1
 end
def uptoSmall : (H : Type) → List (DataW H) → Bool := fun _ ds => decide (uptoBulkAll ds ≤ 1048576)
def OpenSpec.upto (s : _root_.Go.ChangeSpec) : _root_.Go.OpenSpec := { _root_.Go.OpenSpec.ofChange s with cond := some uptoSmall }

/-- 'keelsonlaw1.RowBack', WHERE WHAT IT READS IS OF BULK AT MOST 1048576: true; the input reads as it did. -/
def rowBackUptoRow : OpenClaim := { program := "ytcojleippbneoaa", sum := "11922c0931964f3701dc5212939eba40c55df709d2e09d14fd758925a40a4889", func := "keelson/keelsonlaw1.RowBack", spec := "rowBack", apart := false, narrowed := true }
def RowBackUptoSaid : Prop := rowBackUptoRow.holds Try.pinned (OpenSpec.upto rowBackSpec)

/-- 'keelsonlaw1.RowSpoilt', WHERE WHAT IT READS IS OF BULK AT MOST 1048576: true; the input reads as it did. -/
def rowSpoiltUptoRow : OpenClaim := { program := "ytcojleippbneoaa", sum := "11922c0931964f3701dc5212939eba40c55df709d2e09d14fd758925a40a4889", func := "keelson/keelsonlaw1.RowSpoilt", spec := "rowSpoilt", apart := false, narrowed := true }
def RowSpoiltUptoSaid : Prop := rowSpoiltUptoRow.holds Try.pinned (OpenSpec.upto rowSpoiltSpec)

/-- 'keelsonlaw1.RowBytes', WHERE WHAT IT READS IS OF BULK AT MOST 1048576: true; the input reads as it did. -/
def rowBytesUptoRow : OpenClaim := { program := "ytcojleippbneoaa", sum := "11922c0931964f3701dc5212939eba40c55df709d2e09d14fd758925a40a4889", func := "keelson/keelsonlaw1.RowBytes", spec := "rowBytes", apart := false, narrowed := true }
def RowBytesUptoSaid : Prop := rowBytesUptoRow.holds Try.pinned (OpenSpec.upto rowBytesSpec)

/-- 'keelsonlaw1.RowPlays', WHERE WHAT IT READS IS OF BULK AT MOST 1048576: true; the input reads as it did. -/
def rowPlaysUptoRow : OpenClaim := { program := "ytcojleippbneoaa", sum := "11922c0931964f3701dc5212939eba40c55df709d2e09d14fd758925a40a4889", func := "keelson/keelsonlaw1.RowPlays", spec := "rowPlays", apart := false, narrowed := true }
def RowPlaysUptoSaid : Prop := rowPlaysUptoRow.holds Try.pinned (OpenSpec.upto rowPlaysSpec)

/-- 'keelsonlaw6.ItemTells', WHERE WHAT IT READS IS OF BULK AT MOST 1048576: true; the input reads as it did. -/
def itemTellsUptoRow : OpenClaim := { program := "ytcojleippbneoaa", sum := "11922c0931964f3701dc5212939eba40c55df709d2e09d14fd758925a40a4889", func := "keelson/keelsonlaw6.ItemTells", spec := "itemTells", apart := false, narrowed := true }
def ItemTellsUptoSaid : Prop := itemTellsUptoRow.holds Try.pinned (OpenSpec.upto itemTellsSpec)

/-- 'keelsonlaw6.ItemReads', WHERE WHAT IT READS IS OF BULK AT MOST 1048576: true; the input reads as it did. -/
def itemReadsUptoRow : OpenClaim := { program := "ytcojleippbneoaa", sum := "11922c0931964f3701dc5212939eba40c55df709d2e09d14fd758925a40a4889", func := "keelson/keelsonlaw6.ItemReads", spec := "itemReads", apart := false, narrowed := true }
def ItemReadsUptoSaid : Prop := itemReadsUptoRow.holds Try.pinned (OpenSpec.upto itemReadsSpec)

/-- 'keelsonlaw6.ItemBack', WHERE WHAT IT READS IS OF BULK AT MOST 1048576: true; the input reads as it did. -/
def itemBackUptoRow : OpenClaim := { program := "ytcojleippbneoaa", sum := "11922c0931964f3701dc5212939eba40c55df709d2e09d14fd758925a40a4889", func := "keelson/keelsonlaw6.ItemBack", spec := "itemBack", apart := false, narrowed := true }
def ItemBackUptoSaid : Prop := itemBackUptoRow.holds Try.pinned (OpenSpec.upto itemBackSpec)

/-- 'keelsonlaw6.ItemMany', WHERE WHAT IT READS IS OF BULK AT MOST 1048576: true; the input reads as it did. -/
def itemManyUptoRow : OpenClaim := { program := "ytcojleippbneoaa", sum := "11922c0931964f3701dc5212939eba40c55df709d2e09d14fd758925a40a4889", func := "keelson/keelsonlaw6.ItemMany", spec := "itemMany", apart := false, narrowed := true }
def ItemManyUptoSaid : Prop := itemManyUptoRow.holds Try.pinned (OpenSpec.upto itemManySpec)

/-- 'keelsonlaw10.PageTells', WHERE WHAT IT READS IS OF BULK AT MOST 1048576: true; the input reads as it did. -/
def pageTellsUptoRow : OpenClaim := { program := "ytcojleippbneoaa", sum := "11922c0931964f3701dc5212939eba40c55df709d2e09d14fd758925a40a4889", func := "keelson/keelsonlaw10.PageTells", spec := "pageTells", apart := false, narrowed := true }
def PageTellsUptoSaid : Prop := pageTellsUptoRow.holds Try.pinned (OpenSpec.upto pageTellsSpec)

/-- 'keelsonlaw10.PageBack', WHERE WHAT IT READS IS OF BULK AT MOST 1048576: true; the input reads as it did. -/
def pageBackUptoRow : OpenClaim := { program := "ytcojleippbneoaa", sum := "11922c0931964f3701dc5212939eba40c55df709d2e09d14fd758925a40a4889", func := "keelson/keelsonlaw10.PageBack", spec := "pageBack", apart := false, narrowed := true }
def PageBackUptoSaid : Prop := pageBackUptoRow.holds Try.pinned (OpenSpec.upto pageBackSpec)

/-- 'keelsonlaw10.PageBad', WHERE WHAT IT READS IS OF BULK AT MOST 1048576: true; the input reads as it did. -/
def pageBadUptoRow : OpenClaim := { program := "ytcojleippbneoaa", sum := "11922c0931964f3701dc5212939eba40c55df709d2e09d14fd758925a40a4889", func := "keelson/keelsonlaw10.PageBad", spec := "pageBad", apart := false, narrowed := true }
def PageBadUptoSaid : Prop := pageBadUptoRow.holds Try.pinned (OpenSpec.upto pageBadSpec)

/-- 'keelsonlaw8.HeadTells', WHERE WHAT IT READS IS OF BULK AT MOST 1048576: true; the input reads as it did. -/
def headTellsUptoRow : OpenClaim := { program := "ytcojleippbneoaa", sum := "11922c0931964f3701dc5212939eba40c55df709d2e09d14fd758925a40a4889", func := "keelson/keelsonlaw8.HeadTells", spec := "headTells", apart := false, narrowed := true }
def HeadTellsUptoSaid : Prop := headTellsUptoRow.holds Try.pinned (OpenSpec.upto headTellsSpec)

/-- 'keelsonlaw8.HeadBack', WHERE WHAT IT READS IS OF BULK AT MOST 1048576: true; the input reads as it did. -/
def headBackUptoRow : OpenClaim := { program := "ytcojleippbneoaa", sum := "11922c0931964f3701dc5212939eba40c55df709d2e09d14fd758925a40a4889", func := "keelson/keelsonlaw8.HeadBack", spec := "headBack", apart := false, narrowed := true }
def HeadBackUptoSaid : Prop := headBackUptoRow.holds Try.pinned (OpenSpec.upto headBackSpec)

/-- 'keelsonlaw8.HeadFits', WHERE WHAT IT READS IS OF BULK AT MOST 1048576: true; the input reads as it did. -/
def headFitsUptoRow : OpenClaim := { program := "ytcojleippbneoaa", sum := "11922c0931964f3701dc5212939eba40c55df709d2e09d14fd758925a40a4889", func := "keelson/keelsonlaw8.HeadFits", spec := "headFits", apart := false, narrowed := true }
def HeadFitsUptoSaid : Prop := headFitsUptoRow.holds Try.pinned (OpenSpec.upto headFitsSpec)

/-- 'keelsonlaw5.SuperTells', WHERE WHAT IT READS IS OF BULK AT MOST 1048576: true; the input reads as it did. -/
def superTellsUptoRow : OpenClaim := { program := "ytcojleippbneoaa", sum := "11922c0931964f3701dc5212939eba40c55df709d2e09d14fd758925a40a4889", func := "keelson/keelsonlaw5.SuperTells", spec := "superTells", apart := false, narrowed := true }
def SuperTellsUptoSaid : Prop := superTellsUptoRow.holds Try.pinned (OpenSpec.upto superTellsSpec)

/-- 'keelsonlaw5.SuperBack', WHERE WHAT IT READS IS OF BULK AT MOST 1048576: true; the input reads as it did. -/
def superBackUptoRow : OpenClaim := { program := "ytcojleippbneoaa", sum := "11922c0931964f3701dc5212939eba40c55df709d2e09d14fd758925a40a4889", func := "keelson/keelsonlaw5.SuperBack", spec := "superBack", apart := false, narrowed := true }
def SuperBackUptoSaid : Prop := superBackUptoRow.holds Try.pinned (OpenSpec.upto superBackSpec)

end Rows
end Go.Proofs.Ytcojleippbneoaa
