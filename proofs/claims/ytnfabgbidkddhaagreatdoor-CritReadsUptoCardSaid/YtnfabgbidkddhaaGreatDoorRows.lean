/-
  NARROWER THAN 'FOR EVERY INPUT', by the rows' own cells (each row's printed sentence says how): CritReads: loops, laid · CritRights: loops, laid · CritSets: laid · CritFlags: laid · CritDays: laid.
  DERIVED. THE GIVEN ROWS OF THIS SEAT. 5 by the template 'for every input the law returns true; each argument reads behind the call as it read before'; 0 by the template 'total and deterministic' (their statements: YtnfabgbidkddhaaGreatDoorTotals.lean).
  GIVEN WITH THE SEED: the statements are not yours to turn. If you find one false, say at which input.
  Laid BY PROGRAM, IN A SANDBOX (cutbox-rows.mjs): the forced cells as the released guide's own fill.sh prints them over the translation 30aaa360dbad4aa8… (all of the seat's roots in one cut). By AI agents, Wed Nov 11 2026. No macro, syntax, notation, axiom, sorry.
-/
import Derived.Test.YtnfabgbidkddhaaGreatDoorChecked
import GoSem.PinnedTables
import GoSem.Claim
import GoSem.ClaimJoined
import GoSem.ClaimMapViews
import Derived.JoinedTies
import Derived.KernelRfl
namespace Go.Proofs.YtnfabgbidkddhaaGreatDoor
/- THE CELL 'sum', in the pinned program and in every row, IS THE sha256 OF THE DUMP (.gsa) THAT YtnfabgbidkddhaaGreatDoorProg.lean LOADS. Nothing in Lean hashes anything: it is a label: what it is worth is what the hold of that sum in a sandbox is worth. -/
noncomputable def Tryz.pinned : Pinned := { name := "ytnfabgbidkddhaagreatdoor", sum := "30aaa360dbad4aa8c12f6de9c677f9a93ea9afc63f4615bd16f51c798f3f6239", checked := Tryz.checked }
namespace Rows
def none {H : Type} : Left H := { results := [], args := [] }

/- WHAT THE LISTED PACKAGE-LEVEL VARIABLES READ AS WHEN THE CALL BEGINS. Each datum BY PROGRAM (the guide's laid-datum.mjs) off the statement by which the dump's own 'gosem.cut.vars' lays the variable. In a bare row this is a premise. The card (YtnfabgbidkddhaaGreatDoorCards.lean) ties it to the program's text. -/
def laid_unicode_utf8_acceptRanges {H : Type} : DataW H := .agg [.agg [.lit (.int .u8 128), .lit (.int .u8 191)], .agg [.lit (.int .u8 160), .lit (.int .u8 191)], .agg [.lit (.int .u8 128), .lit (.int .u8 159)], .agg [.lit (.int .u8 144), .lit (.int .u8 191)], .agg [.lit (.int .u8 128), .lit (.int .u8 143)], .agg [.lit (.int .u8 0), .lit (.int .u8 0)], .agg [.lit (.int .u8 0), .lit (.int .u8 0)], .agg [.lit (.int .u8 0), .lit (.int .u8 0)], .agg [.lit (.int .u8 0), .lit (.int .u8 0)], .agg [.lit (.int .u8 0), .lit (.int .u8 0)], .agg [.lit (.int .u8 0), .lit (.int .u8 0)], .agg [.lit (.int .u8 0), .lit (.int .u8 0)], .agg [.lit (.int .u8 0), .lit (.int .u8 0)], .agg [.lit (.int .u8 0), .lit (.int .u8 0)], .agg [.lit (.int .u8 0), .lit (.int .u8 0)], .agg [.lit (.int .u8 0), .lit (.int .u8 0)]]
/-- One of Go's own tables, pinned by name: the form's constant. -/
def laid_unicode_utf8_first : DataW Unit := Go.Pinned.utf8First

/-- 'pillarboxlaw23.CritReads': WHATEVER THE INPUT: true; the input reads as it did. -/
def critReadsSpec : ChangeSpec := { name := "critReads", fn := fun _ => fun
  | [d1, d2, d3] => { results := [.lit (.bool true)], args := [d1, d2, d3] }
  | _ => none }
def critReadsRow : OpenClaim := { program := "ytnfabgbidkddhaagreatdoor", sum := "30aaa360dbad4aa8c12f6de9c677f9a93ea9afc63f4615bd16f51c798f3f6239", func := "pillarbox/pillarboxlaw23.CritReads", spec := "critReads", inPlace := ["internal/bytealg.CountString", "internal/bytealg.IndexByteString", "internal/bytealg.IndexString"], unfollowed := true, recurses := true, named := ["unicode/utf8.first", "unicode/utf8.acceptRanges", "internal/bytealg.MaxLen"], loops := true, apart := false, laid := [("unicode/utf8.acceptRanges", laid_unicode_utf8_acceptRanges), ("unicode/utf8.first", laid_unicode_utf8_first)] }
def CritReadsSaid : Prop := critReadsRow.holds Tryz.pinned (OpenSpec.ofChange critReadsSpec)

/-- ITS FALSE NEIGHBOUR: 'it returns false'. Refute it at one input. -/
def critReadsWrong : ChangeSpec := { name := "critReads", fn := fun _ => fun
  | [d1, d2, d3] => { results := [.lit (.bool false)], args := [d1, d2, d3] }
  | _ => none }
def CritReadsWrongFalsely : Prop := critReadsRow.holds Tryz.pinned (OpenSpec.ofChange critReadsWrong)

/-- 'pillarboxlaw23.CritRights': WHATEVER THE INPUT: true; the input reads as it did. -/
def critRightsSpec : ChangeSpec := { name := "critRights", fn := fun _ => fun
  | [d1, d2, d3, d4] => { results := [.lit (.bool true)], args := [d1, d2, d3, d4] }
  | _ => none }
def critRightsRow : OpenClaim := { program := "ytnfabgbidkddhaagreatdoor", sum := "30aaa360dbad4aa8c12f6de9c677f9a93ea9afc63f4615bd16f51c798f3f6239", func := "pillarbox/pillarboxlaw23.CritRights", spec := "critRights", inPlace := ["internal/bytealg.CountString", "internal/bytealg.IndexByteString", "internal/bytealg.IndexString"], unfollowed := true, recurses := true, named := ["unicode/utf8.first", "unicode/utf8.acceptRanges", "internal/bytealg.MaxLen"], loops := true, apart := false, laid := [("unicode/utf8.acceptRanges", laid_unicode_utf8_acceptRanges), ("unicode/utf8.first", laid_unicode_utf8_first)] }
def CritRightsSaid : Prop := critRightsRow.holds Tryz.pinned (OpenSpec.ofChange critRightsSpec)

/-- ITS FALSE NEIGHBOUR: 'it returns false'. Refute it at one input. -/
def critRightsWrong : ChangeSpec := { name := "critRights", fn := fun _ => fun
  | [d1, d2, d3, d4] => { results := [.lit (.bool false)], args := [d1, d2, d3, d4] }
  | _ => none }
def CritRightsWrongFalsely : Prop := critRightsRow.holds Tryz.pinned (OpenSpec.ofChange critRightsWrong)

/-- 'pillarboxlaw23.CritSets': WHATEVER THE INPUT: true; the input reads as it did. -/
def critSetsSpec : ChangeSpec := { name := "critSets", fn := fun _ => fun
  | [d1, d2, d3] => { results := [.lit (.bool true)], args := [d1, d2, d3] }
  | _ => none }
def critSetsRow : OpenClaim := { program := "ytnfabgbidkddhaagreatdoor", sum := "30aaa360dbad4aa8c12f6de9c677f9a93ea9afc63f4615bd16f51c798f3f6239", func := "pillarbox/pillarboxlaw23.CritSets", spec := "critSets", inPlace := ["internal/bytealg.CountString", "internal/bytealg.IndexByteString", "internal/bytealg.IndexString"], unfollowed := true, recurses := true, named := ["unicode/utf8.first", "unicode/utf8.acceptRanges", "internal/bytealg.MaxLen"], apart := false, laid := [("unicode/utf8.acceptRanges", laid_unicode_utf8_acceptRanges), ("unicode/utf8.first", laid_unicode_utf8_first)] }
def CritSetsSaid : Prop := critSetsRow.holds Tryz.pinned (OpenSpec.ofChange critSetsSpec)

/-- ITS FALSE NEIGHBOUR: 'it returns false'. Refute it at one input. -/
def critSetsWrong : ChangeSpec := { name := "critSets", fn := fun _ => fun
  | [d1, d2, d3] => { results := [.lit (.bool false)], args := [d1, d2, d3] }
  | _ => none }
def CritSetsWrongFalsely : Prop := critSetsRow.holds Tryz.pinned (OpenSpec.ofChange critSetsWrong)

/-- 'pillarboxlaw23.CritFlags': WHATEVER THE INPUT: true; the input reads as it did. -/
def critFlagsSpec : ChangeSpec := { name := "critFlags", fn := fun _ => fun
  | [d1, d2] => { results := [.lit (.bool true)], args := [d1, d2] }
  | _ => none }
def critFlagsRow : OpenClaim := { program := "ytnfabgbidkddhaagreatdoor", sum := "30aaa360dbad4aa8c12f6de9c677f9a93ea9afc63f4615bd16f51c798f3f6239", func := "pillarbox/pillarboxlaw23.CritFlags", spec := "critFlags", inPlace := ["internal/bytealg.CountString", "internal/bytealg.IndexByteString", "internal/bytealg.IndexString"], unfollowed := true, recurses := true, named := ["unicode/utf8.first", "unicode/utf8.acceptRanges", "internal/bytealg.MaxLen"], apart := false, laid := [("unicode/utf8.acceptRanges", laid_unicode_utf8_acceptRanges), ("unicode/utf8.first", laid_unicode_utf8_first)] }
def CritFlagsSaid : Prop := critFlagsRow.holds Tryz.pinned (OpenSpec.ofChange critFlagsSpec)

/-- ITS FALSE NEIGHBOUR: 'it returns false'. Refute it at one input. -/
def critFlagsWrong : ChangeSpec := { name := "critFlags", fn := fun _ => fun
  | [d1, d2] => { results := [.lit (.bool false)], args := [d1, d2] }
  | _ => none }
def CritFlagsWrongFalsely : Prop := critFlagsRow.holds Tryz.pinned (OpenSpec.ofChange critFlagsWrong)

/-- 'pillarboxlaw23.CritDays': WHATEVER THE INPUT: true; the input reads as it did. -/
def critDaysSpec : ChangeSpec := { name := "critDays", fn := fun _ => fun
  | [d1, d2] => { results := [.lit (.bool true)], args := [d1, d2] }
  | _ => none }
def critDaysRow : OpenClaim := { program := "ytnfabgbidkddhaagreatdoor", sum := "30aaa360dbad4aa8c12f6de9c677f9a93ea9afc63f4615bd16f51c798f3f6239", func := "pillarbox/pillarboxlaw23.CritDays", spec := "critDays", inPlace := ["internal/bytealg.CountString", "internal/bytealg.IndexByteString", "internal/bytealg.IndexString"], unfollowed := true, recurses := true, named := ["unicode/utf8.first", "unicode/utf8.acceptRanges", "internal/bytealg.MaxLen"], apart := false, laid := [("unicode/utf8.acceptRanges", laid_unicode_utf8_acceptRanges), ("unicode/utf8.first", laid_unicode_utf8_first)] }
def CritDaysSaid : Prop := critDaysRow.holds Tryz.pinned (OpenSpec.ofChange critDaysSpec)

/-- ITS FALSE NEIGHBOUR: 'it returns false'. Refute it at one input. -/
def critDaysWrong : ChangeSpec := { name := "critDays", fn := fun _ => fun
  | [d1, d2] => { results := [.lit (.bool false)], args := [d1, d2] }
  | _ => none }
def CritDaysWrongFalsely : Prop := critDaysRow.holds Tryz.pinned (OpenSpec.ofChange critDaysWrong)

/- THE SECOND FORM. 'bulk': how many values and letters a reading holds, each counted each time it is reached (what is shared counts as often as it is met; a slice's spare places count too). A statement '..UptoSaid' is the law's where the arguments, and the package variables that the reading takes, are together of bulk at most 1048576: NARROWER than '..Said'. Prove '..Said' where nothing that the law and all that it calls make is longer than what came in: it says more and counts as full. Else prove '..UptoSaid'. A law counts once. -/
mutual
def uptoBulk {H : Type} : DataW H → Nat
  | .lit (.string bytes) => bytes.length + 1
  | .lit _ => 1
  | .nil => 1
  | .ptr d => uptoBulk d + 1
  | .slice elems spare => uptoBulkAll elems + uptoBulkAll spare + 1
  | .agg parts => uptoBulkAll parts + 1
  | .iface _ d => uptoBulk d + 1
  | .map entries => uptoBulkEntries entries + 1
  | .held _ => 1
def uptoBulkAll {H : Type} : List (DataW H) → Nat
  | [] => 0
  | d :: r => uptoBulk d + uptoBulkAll r
def uptoBulkEntries {H : Type} : List (Lit × DataW H) → Nat
  | [] => 0
  | x :: r => uptoBulkEntry x + uptoBulkEntries r
def uptoBulkEntry {H : Type} : Lit × DataW H → Nat
  | (.string bytes, d) => bytes.length + uptoBulk d + 1
  | (_, d) => uptoBulk d + 1
 end
def uptoSmall : (H : Type) → List (DataW H) → Bool := fun _ ds => decide (uptoBulkAll ds ≤ 1048576)
def OpenSpec.upto (s : _root_.Go.ChangeSpec) : _root_.Go.OpenSpec := { _root_.Go.OpenSpec.ofChange s with cond := some uptoSmall }

/-- 'pillarboxlaw23.CritReads', WHERE WHAT IT READS IS OF BULK AT MOST 1048576: true; the input reads as it did. -/
def critReadsUptoRow : OpenClaim := { program := "ytnfabgbidkddhaagreatdoor", sum := "30aaa360dbad4aa8c12f6de9c677f9a93ea9afc63f4615bd16f51c798f3f6239", func := "pillarbox/pillarboxlaw23.CritReads", spec := "critReads", inPlace := ["internal/bytealg.CountString", "internal/bytealg.IndexByteString", "internal/bytealg.IndexString"], unfollowed := true, recurses := true, named := ["unicode/utf8.first", "unicode/utf8.acceptRanges", "internal/bytealg.MaxLen"], loops := true, apart := false, laid := [("unicode/utf8.acceptRanges", laid_unicode_utf8_acceptRanges), ("unicode/utf8.first", laid_unicode_utf8_first)], narrowed := true }
def CritReadsUptoSaid : Prop := critReadsUptoRow.holds Tryz.pinned (OpenSpec.upto critReadsSpec)

/-- 'pillarboxlaw23.CritRights', WHERE WHAT IT READS IS OF BULK AT MOST 1048576: true; the input reads as it did. -/
def critRightsUptoRow : OpenClaim := { program := "ytnfabgbidkddhaagreatdoor", sum := "30aaa360dbad4aa8c12f6de9c677f9a93ea9afc63f4615bd16f51c798f3f6239", func := "pillarbox/pillarboxlaw23.CritRights", spec := "critRights", inPlace := ["internal/bytealg.CountString", "internal/bytealg.IndexByteString", "internal/bytealg.IndexString"], unfollowed := true, recurses := true, named := ["unicode/utf8.first", "unicode/utf8.acceptRanges", "internal/bytealg.MaxLen"], loops := true, apart := false, laid := [("unicode/utf8.acceptRanges", laid_unicode_utf8_acceptRanges), ("unicode/utf8.first", laid_unicode_utf8_first)], narrowed := true }
def CritRightsUptoSaid : Prop := critRightsUptoRow.holds Tryz.pinned (OpenSpec.upto critRightsSpec)

/-- 'pillarboxlaw23.CritSets', WHERE WHAT IT READS IS OF BULK AT MOST 1048576: true; the input reads as it did. -/
def critSetsUptoRow : OpenClaim := { program := "ytnfabgbidkddhaagreatdoor", sum := "30aaa360dbad4aa8c12f6de9c677f9a93ea9afc63f4615bd16f51c798f3f6239", func := "pillarbox/pillarboxlaw23.CritSets", spec := "critSets", inPlace := ["internal/bytealg.CountString", "internal/bytealg.IndexByteString", "internal/bytealg.IndexString"], unfollowed := true, recurses := true, named := ["unicode/utf8.first", "unicode/utf8.acceptRanges", "internal/bytealg.MaxLen"], apart := false, laid := [("unicode/utf8.acceptRanges", laid_unicode_utf8_acceptRanges), ("unicode/utf8.first", laid_unicode_utf8_first)], narrowed := true }
def CritSetsUptoSaid : Prop := critSetsUptoRow.holds Tryz.pinned (OpenSpec.upto critSetsSpec)

/-- 'pillarboxlaw23.CritFlags', WHERE WHAT IT READS IS OF BULK AT MOST 1048576: true; the input reads as it did. -/
def critFlagsUptoRow : OpenClaim := { program := "ytnfabgbidkddhaagreatdoor", sum := "30aaa360dbad4aa8c12f6de9c677f9a93ea9afc63f4615bd16f51c798f3f6239", func := "pillarbox/pillarboxlaw23.CritFlags", spec := "critFlags", inPlace := ["internal/bytealg.CountString", "internal/bytealg.IndexByteString", "internal/bytealg.IndexString"], unfollowed := true, recurses := true, named := ["unicode/utf8.first", "unicode/utf8.acceptRanges", "internal/bytealg.MaxLen"], apart := false, laid := [("unicode/utf8.acceptRanges", laid_unicode_utf8_acceptRanges), ("unicode/utf8.first", laid_unicode_utf8_first)], narrowed := true }
def CritFlagsUptoSaid : Prop := critFlagsUptoRow.holds Tryz.pinned (OpenSpec.upto critFlagsSpec)

/-- 'pillarboxlaw23.CritDays', WHERE WHAT IT READS IS OF BULK AT MOST 1048576: true; the input reads as it did. -/
def critDaysUptoRow : OpenClaim := { program := "ytnfabgbidkddhaagreatdoor", sum := "30aaa360dbad4aa8c12f6de9c677f9a93ea9afc63f4615bd16f51c798f3f6239", func := "pillarbox/pillarboxlaw23.CritDays", spec := "critDays", inPlace := ["internal/bytealg.CountString", "internal/bytealg.IndexByteString", "internal/bytealg.IndexString"], unfollowed := true, recurses := true, named := ["unicode/utf8.first", "unicode/utf8.acceptRanges", "internal/bytealg.MaxLen"], apart := false, laid := [("unicode/utf8.acceptRanges", laid_unicode_utf8_acceptRanges), ("unicode/utf8.first", laid_unicode_utf8_first)], narrowed := true }
def CritDaysUptoSaid : Prop := critDaysUptoRow.holds Tryz.pinned (OpenSpec.upto critDaysSpec)

end Rows
end Go.Proofs.YtnfabgbidkddhaaGreatDoor
