/-
  NARROWER THAN 'FOR EVERY INPUT', by the rows' own cells (each row's printed sentence says how): StoreThreads: laid · StoreNews: laid · StoreSeen: laid · StoreFull: laid · StoreBoxes: laid · StoreEnds: laid · StoreRefuses: laid · StoreUids: laid · StoreRuns: laid · StoreCopies: laid · StoreLogs: laid · StoreNil: laid.
  DERIVED. THE GIVEN ROWS OF THIS SEAT. 12 by the template 'for every input the law returns true; each argument reads behind the call as it read before'; 0 by the template 'total and deterministic' (their statements: YtmbibhphpjmboaaGreatDoorTotals.lean).
  GIVEN WITH THE SEED: the statements are not yours to turn. If you find one false, say at which input.
  Laid BY PROGRAM, IN A SANDBOX (cutbox-rows.mjs): the forced cells as the released guide's own fill.sh prints them over the translation 0ad1d2e7a4140f4d… (all of the seat's roots in one cut). By AI agents, Wed Nov 11 2026. No macro, syntax, notation, axiom, sorry.
-/
import Derived.Test.YtmbibhphpjmboaaGreatDoorChecked
import GoSem.PinnedTables
import GoSem.Claim
import GoSem.ClaimJoined
import GoSem.ClaimMapViews
import Derived.JoinedTies
import Derived.KernelRfl
namespace Go.Proofs.YtmbibhphpjmboaaGreatDoor
/- THE CELL 'sum', in the pinned program and in every row, IS THE sha256 OF THE DUMP (.gsa) THAT YtmbibhphpjmboaaGreatDoorProg.lean LOADS. Nothing in Lean hashes anything: it is a label: what it is worth is what the hold of that sum in a sandbox is worth. -/
noncomputable def Tryz.pinned : Pinned := { name := "ytmbibhphpjmboaagreatdoor", sum := "0ad1d2e7a4140f4d9fabbd953cfa79cfef08ea40b4f1517c2d9dc5c36a03edd5", checked := Tryz.checked }
namespace Rows
def none {H : Type} : Left H := { results := [], args := [] }

/- WHAT THE LISTED PACKAGE-LEVEL VARIABLES READ AS WHEN THE CALL BEGINS. Each datum BY PROGRAM (the guide's laid-datum.mjs) off the statement by which the dump's own 'gosem.cut.vars' lays the variable. In a bare row this is a premise. The card (YtmbibhphpjmboaaGreatDoorCards.lean) ties it to the program's text. -/
def laid_unicode_utf8_acceptRanges {H : Type} : DataW H := .agg [.agg [.lit (.int .u8 128), .lit (.int .u8 191)], .agg [.lit (.int .u8 160), .lit (.int .u8 191)], .agg [.lit (.int .u8 128), .lit (.int .u8 159)], .agg [.lit (.int .u8 144), .lit (.int .u8 191)], .agg [.lit (.int .u8 128), .lit (.int .u8 143)], .agg [.lit (.int .u8 0), .lit (.int .u8 0)], .agg [.lit (.int .u8 0), .lit (.int .u8 0)], .agg [.lit (.int .u8 0), .lit (.int .u8 0)], .agg [.lit (.int .u8 0), .lit (.int .u8 0)], .agg [.lit (.int .u8 0), .lit (.int .u8 0)], .agg [.lit (.int .u8 0), .lit (.int .u8 0)], .agg [.lit (.int .u8 0), .lit (.int .u8 0)], .agg [.lit (.int .u8 0), .lit (.int .u8 0)], .agg [.lit (.int .u8 0), .lit (.int .u8 0)], .agg [.lit (.int .u8 0), .lit (.int .u8 0)], .agg [.lit (.int .u8 0), .lit (.int .u8 0)]]
/-- One of Go's own tables, pinned by name: the form's constant. -/
def laid_unicode_utf8_first : DataW Unit := Go.Pinned.utf8First

/-- 'pillarboxlaw18.StoreThreads': WHATEVER THE INPUT: true; the input reads as it did. -/
def storeThreadsSpec : ChangeSpec := { name := "storeThreads", fn := fun _ => fun
  | [d] => { results := [.lit (.bool true)], args := [d] }
  | _ => none }
def storeThreadsRow : OpenClaim := { program := "ytmbibhphpjmboaagreatdoor", sum := "0ad1d2e7a4140f4d9fabbd953cfa79cfef08ea40b4f1517c2d9dc5c36a03edd5", func := "pillarbox/pillarboxlaw18.StoreThreads", spec := "storeThreads", inPlace := ["internal/bytealg.IndexByteString", "sync/atomic.StoreInt64", "sync/atomic.LoadInt64", "sync/atomic.AddInt64", "internal/bytealg.IndexString"], unfollowed := true, recurses := true, named := ["internal/bytealg.MaxLen", "unicode/utf8.first", "unicode/utf8.acceptRanges"], apart := false, laid := [("unicode/utf8.acceptRanges", laid_unicode_utf8_acceptRanges), ("unicode/utf8.first", laid_unicode_utf8_first)] }
def StoreThreadsSaid : Prop := storeThreadsRow.holds Tryz.pinned (OpenSpec.ofChange storeThreadsSpec)

/-- ITS FALSE NEIGHBOUR: 'it returns false'. Refute it at one input. -/
def storeThreadsWrong : ChangeSpec := { name := "storeThreads", fn := fun _ => fun
  | [d] => { results := [.lit (.bool false)], args := [d] }
  | _ => none }
def StoreThreadsWrongFalsely : Prop := storeThreadsRow.holds Tryz.pinned (OpenSpec.ofChange storeThreadsWrong)

/-- 'pillarboxlaw18.StoreNews': WHATEVER THE INPUT: true; the input reads as it did. -/
def storeNewsSpec : ChangeSpec := { name := "storeNews", fn := fun _ => fun
  | [d] => { results := [.lit (.bool true)], args := [d] }
  | _ => none }
def storeNewsRow : OpenClaim := { program := "ytmbibhphpjmboaagreatdoor", sum := "0ad1d2e7a4140f4d9fabbd953cfa79cfef08ea40b4f1517c2d9dc5c36a03edd5", func := "pillarbox/pillarboxlaw18.StoreNews", spec := "storeNews", inPlace := ["internal/bytealg.IndexByteString", "sync/atomic.StoreInt64", "sync/atomic.LoadInt64", "sync/atomic.AddInt64", "internal/bytealg.IndexString"], unfollowed := true, recurses := true, named := ["internal/bytealg.MaxLen", "unicode/utf8.first", "unicode/utf8.acceptRanges"], apart := false, laid := [("unicode/utf8.acceptRanges", laid_unicode_utf8_acceptRanges), ("unicode/utf8.first", laid_unicode_utf8_first)] }
def StoreNewsSaid : Prop := storeNewsRow.holds Tryz.pinned (OpenSpec.ofChange storeNewsSpec)

/-- ITS FALSE NEIGHBOUR: 'it returns false'. Refute it at one input. -/
def storeNewsWrong : ChangeSpec := { name := "storeNews", fn := fun _ => fun
  | [d] => { results := [.lit (.bool false)], args := [d] }
  | _ => none }
def StoreNewsWrongFalsely : Prop := storeNewsRow.holds Tryz.pinned (OpenSpec.ofChange storeNewsWrong)

/-- 'pillarboxlaw18.StoreSeen': WHATEVER THE INPUT: true; the input reads as it did. -/
def storeSeenSpec : ChangeSpec := { name := "storeSeen", fn := fun _ => fun
  | [d1, d2, d3] => { results := [.lit (.bool true)], args := [d1, d2, d3] }
  | _ => none }
def storeSeenRow : OpenClaim := { program := "ytmbibhphpjmboaagreatdoor", sum := "0ad1d2e7a4140f4d9fabbd953cfa79cfef08ea40b4f1517c2d9dc5c36a03edd5", func := "pillarbox/pillarboxlaw18.StoreSeen", spec := "storeSeen", inPlace := ["internal/bytealg.IndexByteString", "sync/atomic.StoreInt64", "sync/atomic.LoadInt64", "sync/atomic.AddInt64", "internal/bytealg.IndexString"], unfollowed := true, recurses := true, named := ["internal/bytealg.MaxLen", "unicode/utf8.first", "unicode/utf8.acceptRanges"], apart := false, laid := [("unicode/utf8.acceptRanges", laid_unicode_utf8_acceptRanges), ("unicode/utf8.first", laid_unicode_utf8_first)] }
def StoreSeenSaid : Prop := storeSeenRow.holds Tryz.pinned (OpenSpec.ofChange storeSeenSpec)

/-- ITS FALSE NEIGHBOUR: 'it returns false'. Refute it at one input. -/
def storeSeenWrong : ChangeSpec := { name := "storeSeen", fn := fun _ => fun
  | [d1, d2, d3] => { results := [.lit (.bool false)], args := [d1, d2, d3] }
  | _ => none }
def StoreSeenWrongFalsely : Prop := storeSeenRow.holds Tryz.pinned (OpenSpec.ofChange storeSeenWrong)

/-- 'pillarboxlaw18.StoreFull': WHATEVER THE INPUT: true; the input reads as it did. -/
def storeFullSpec : ChangeSpec := { name := "storeFull", fn := fun _ => fun
  | [d1, d2] => { results := [.lit (.bool true)], args := [d1, d2] }
  | _ => none }
def storeFullRow : OpenClaim := { program := "ytmbibhphpjmboaagreatdoor", sum := "0ad1d2e7a4140f4d9fabbd953cfa79cfef08ea40b4f1517c2d9dc5c36a03edd5", func := "pillarbox/pillarboxlaw18.StoreFull", spec := "storeFull", inPlace := ["internal/bytealg.IndexByteString", "sync/atomic.StoreInt64", "sync/atomic.LoadInt64", "sync/atomic.AddInt64", "internal/bytealg.IndexString"], unfollowed := true, recurses := true, named := ["internal/bytealg.MaxLen", "unicode/utf8.first", "unicode/utf8.acceptRanges"], apart := false, laid := [("unicode/utf8.acceptRanges", laid_unicode_utf8_acceptRanges), ("unicode/utf8.first", laid_unicode_utf8_first)] }
def StoreFullSaid : Prop := storeFullRow.holds Tryz.pinned (OpenSpec.ofChange storeFullSpec)

/-- ITS FALSE NEIGHBOUR: 'it returns false'. Refute it at one input. -/
def storeFullWrong : ChangeSpec := { name := "storeFull", fn := fun _ => fun
  | [d1, d2] => { results := [.lit (.bool false)], args := [d1, d2] }
  | _ => none }
def StoreFullWrongFalsely : Prop := storeFullRow.holds Tryz.pinned (OpenSpec.ofChange storeFullWrong)

/-- 'pillarboxlaw18.StoreBoxes': WHATEVER THE INPUT: true; the input reads as it did. -/
def storeBoxesSpec : ChangeSpec := { name := "storeBoxes", fn := fun _ => fun
  | [d] => { results := [.lit (.bool true)], args := [d] }
  | _ => none }
def storeBoxesRow : OpenClaim := { program := "ytmbibhphpjmboaagreatdoor", sum := "0ad1d2e7a4140f4d9fabbd953cfa79cfef08ea40b4f1517c2d9dc5c36a03edd5", func := "pillarbox/pillarboxlaw18.StoreBoxes", spec := "storeBoxes", inPlace := ["internal/bytealg.IndexByteString", "sync/atomic.StoreInt64", "sync/atomic.LoadInt64", "sync/atomic.AddInt64", "internal/bytealg.IndexString"], unfollowed := true, recurses := true, named := ["internal/bytealg.MaxLen", "unicode/utf8.first", "unicode/utf8.acceptRanges"], apart := false, laid := [("unicode/utf8.acceptRanges", laid_unicode_utf8_acceptRanges), ("unicode/utf8.first", laid_unicode_utf8_first)] }
def StoreBoxesSaid : Prop := storeBoxesRow.holds Tryz.pinned (OpenSpec.ofChange storeBoxesSpec)

/-- ITS FALSE NEIGHBOUR: 'it returns false'. Refute it at one input. -/
def storeBoxesWrong : ChangeSpec := { name := "storeBoxes", fn := fun _ => fun
  | [d] => { results := [.lit (.bool false)], args := [d] }
  | _ => none }
def StoreBoxesWrongFalsely : Prop := storeBoxesRow.holds Tryz.pinned (OpenSpec.ofChange storeBoxesWrong)

/-- 'pillarboxlaw18.StoreEnds': WHATEVER THE INPUT: true; the input reads as it did. -/
def storeEndsSpec : ChangeSpec := { name := "storeEnds", fn := fun _ => fun
  | [d1, d2] => { results := [.lit (.bool true)], args := [d1, d2] }
  | _ => none }
def storeEndsRow : OpenClaim := { program := "ytmbibhphpjmboaagreatdoor", sum := "0ad1d2e7a4140f4d9fabbd953cfa79cfef08ea40b4f1517c2d9dc5c36a03edd5", func := "pillarbox/pillarboxlaw18.StoreEnds", spec := "storeEnds", inPlace := ["internal/bytealg.IndexByteString", "sync/atomic.StoreInt64", "sync/atomic.LoadInt64", "sync/atomic.AddInt64", "internal/bytealg.IndexString"], unfollowed := true, recurses := true, named := ["internal/bytealg.MaxLen", "unicode/utf8.first", "unicode/utf8.acceptRanges"], apart := false, laid := [("unicode/utf8.acceptRanges", laid_unicode_utf8_acceptRanges), ("unicode/utf8.first", laid_unicode_utf8_first)] }
def StoreEndsSaid : Prop := storeEndsRow.holds Tryz.pinned (OpenSpec.ofChange storeEndsSpec)

/-- ITS FALSE NEIGHBOUR: 'it returns false'. Refute it at one input. -/
def storeEndsWrong : ChangeSpec := { name := "storeEnds", fn := fun _ => fun
  | [d1, d2] => { results := [.lit (.bool false)], args := [d1, d2] }
  | _ => none }
def StoreEndsWrongFalsely : Prop := storeEndsRow.holds Tryz.pinned (OpenSpec.ofChange storeEndsWrong)

/-- 'pillarboxlaw18.StoreRefuses': WHATEVER THE INPUT: true; the input reads as it did. -/
def storeRefusesSpec : ChangeSpec := { name := "storeRefuses", fn := fun _ => fun
  | [d1, d2, d3, d4, d5, d6] => { results := [.lit (.bool true)], args := [d1, d2, d3, d4, d5, d6] }
  | _ => none }
def storeRefusesRow : OpenClaim := { program := "ytmbibhphpjmboaagreatdoor", sum := "0ad1d2e7a4140f4d9fabbd953cfa79cfef08ea40b4f1517c2d9dc5c36a03edd5", func := "pillarbox/pillarboxlaw18.StoreRefuses", spec := "storeRefuses", inPlace := ["internal/bytealg.IndexByteString", "sync/atomic.StoreInt64", "sync/atomic.LoadInt64", "sync/atomic.AddInt64", "internal/bytealg.IndexString"], unfollowed := true, recurses := true, named := ["internal/bytealg.MaxLen", "unicode/utf8.first", "unicode/utf8.acceptRanges"], apart := false, laid := [("unicode/utf8.acceptRanges", laid_unicode_utf8_acceptRanges), ("unicode/utf8.first", laid_unicode_utf8_first)] }
def StoreRefusesSaid : Prop := storeRefusesRow.holds Tryz.pinned (OpenSpec.ofChange storeRefusesSpec)

/-- ITS FALSE NEIGHBOUR: 'it returns false'. Refute it at one input. -/
def storeRefusesWrong : ChangeSpec := { name := "storeRefuses", fn := fun _ => fun
  | [d1, d2, d3, d4, d5, d6] => { results := [.lit (.bool false)], args := [d1, d2, d3, d4, d5, d6] }
  | _ => none }
def StoreRefusesWrongFalsely : Prop := storeRefusesRow.holds Tryz.pinned (OpenSpec.ofChange storeRefusesWrong)

/-- 'pillarboxlaw18.StoreUids': WHATEVER THE INPUT: true; the input reads as it did. -/
def storeUidsSpec : ChangeSpec := { name := "storeUids", fn := fun _ => fun
  | [d] => { results := [.lit (.bool true)], args := [d] }
  | _ => none }
def storeUidsRow : OpenClaim := { program := "ytmbibhphpjmboaagreatdoor", sum := "0ad1d2e7a4140f4d9fabbd953cfa79cfef08ea40b4f1517c2d9dc5c36a03edd5", func := "pillarbox/pillarboxlaw18.StoreUids", spec := "storeUids", inPlace := ["internal/bytealg.IndexByteString", "sync/atomic.StoreInt64", "sync/atomic.LoadInt64", "sync/atomic.AddInt64", "internal/bytealg.IndexString"], unfollowed := true, recurses := true, named := ["internal/bytealg.MaxLen", "unicode/utf8.first", "unicode/utf8.acceptRanges"], apart := false, laid := [("unicode/utf8.acceptRanges", laid_unicode_utf8_acceptRanges), ("unicode/utf8.first", laid_unicode_utf8_first)] }
def StoreUidsSaid : Prop := storeUidsRow.holds Tryz.pinned (OpenSpec.ofChange storeUidsSpec)

/-- ITS FALSE NEIGHBOUR: 'it returns false'. Refute it at one input. -/
def storeUidsWrong : ChangeSpec := { name := "storeUids", fn := fun _ => fun
  | [d] => { results := [.lit (.bool false)], args := [d] }
  | _ => none }
def StoreUidsWrongFalsely : Prop := storeUidsRow.holds Tryz.pinned (OpenSpec.ofChange storeUidsWrong)

/-- 'pillarboxlaw18.StoreRuns': WHATEVER THE INPUT: true; the input reads as it did. -/
def storeRunsSpec : ChangeSpec := { name := "storeRuns", fn := fun _ => fun
  | [d1, d2, d3, d4, d5, d6] => { results := [.lit (.bool true)], args := [d1, d2, d3, d4, d5, d6] }
  | _ => none }
def storeRunsRow : OpenClaim := { program := "ytmbibhphpjmboaagreatdoor", sum := "0ad1d2e7a4140f4d9fabbd953cfa79cfef08ea40b4f1517c2d9dc5c36a03edd5", func := "pillarbox/pillarboxlaw18.StoreRuns", spec := "storeRuns", inPlace := ["internal/bytealg.IndexByteString", "sync/atomic.StoreInt64", "sync/atomic.LoadInt64", "sync/atomic.AddInt64", "internal/bytealg.IndexString"], unfollowed := true, recurses := true, named := ["internal/bytealg.MaxLen", "unicode/utf8.first", "unicode/utf8.acceptRanges"], apart := false, laid := [("unicode/utf8.acceptRanges", laid_unicode_utf8_acceptRanges), ("unicode/utf8.first", laid_unicode_utf8_first)] }
def StoreRunsSaid : Prop := storeRunsRow.holds Tryz.pinned (OpenSpec.ofChange storeRunsSpec)

/-- ITS FALSE NEIGHBOUR: 'it returns false'. Refute it at one input. -/
def storeRunsWrong : ChangeSpec := { name := "storeRuns", fn := fun _ => fun
  | [d1, d2, d3, d4, d5, d6] => { results := [.lit (.bool false)], args := [d1, d2, d3, d4, d5, d6] }
  | _ => none }
def StoreRunsWrongFalsely : Prop := storeRunsRow.holds Tryz.pinned (OpenSpec.ofChange storeRunsWrong)

/-- 'pillarboxlaw18.StoreCopies': WHATEVER THE INPUT: true; the input reads as it did. -/
def storeCopiesSpec : ChangeSpec := { name := "storeCopies", fn := fun _ => fun
  | [d1, d2] => { results := [.lit (.bool true)], args := [d1, d2] }
  | _ => none }
def storeCopiesRow : OpenClaim := { program := "ytmbibhphpjmboaagreatdoor", sum := "0ad1d2e7a4140f4d9fabbd953cfa79cfef08ea40b4f1517c2d9dc5c36a03edd5", func := "pillarbox/pillarboxlaw18.StoreCopies", spec := "storeCopies", inPlace := ["internal/bytealg.IndexByteString", "sync/atomic.StoreInt64", "sync/atomic.LoadInt64", "sync/atomic.AddInt64", "internal/bytealg.IndexString"], unfollowed := true, recurses := true, named := ["internal/bytealg.MaxLen", "unicode/utf8.first", "unicode/utf8.acceptRanges"], apart := false, laid := [("unicode/utf8.acceptRanges", laid_unicode_utf8_acceptRanges), ("unicode/utf8.first", laid_unicode_utf8_first)] }
def StoreCopiesSaid : Prop := storeCopiesRow.holds Tryz.pinned (OpenSpec.ofChange storeCopiesSpec)

/-- ITS FALSE NEIGHBOUR: 'it returns false'. Refute it at one input. -/
def storeCopiesWrong : ChangeSpec := { name := "storeCopies", fn := fun _ => fun
  | [d1, d2] => { results := [.lit (.bool false)], args := [d1, d2] }
  | _ => none }
def StoreCopiesWrongFalsely : Prop := storeCopiesRow.holds Tryz.pinned (OpenSpec.ofChange storeCopiesWrong)

/-- 'pillarboxlaw18.StoreLogs': WHATEVER THE INPUT: true; the input reads as it did. -/
def storeLogsSpec : ChangeSpec := { name := "storeLogs", fn := fun _ => fun
  | [d] => { results := [.lit (.bool true)], args := [d] }
  | _ => none }
def storeLogsRow : OpenClaim := { program := "ytmbibhphpjmboaagreatdoor", sum := "0ad1d2e7a4140f4d9fabbd953cfa79cfef08ea40b4f1517c2d9dc5c36a03edd5", func := "pillarbox/pillarboxlaw18.StoreLogs", spec := "storeLogs", inPlace := ["internal/bytealg.IndexByteString", "sync/atomic.StoreInt64", "sync/atomic.LoadInt64", "sync/atomic.AddInt64", "internal/bytealg.IndexString"], unfollowed := true, recurses := true, named := ["internal/bytealg.MaxLen", "unicode/utf8.first", "unicode/utf8.acceptRanges"], apart := false, laid := [("unicode/utf8.acceptRanges", laid_unicode_utf8_acceptRanges), ("unicode/utf8.first", laid_unicode_utf8_first)] }
def StoreLogsSaid : Prop := storeLogsRow.holds Tryz.pinned (OpenSpec.ofChange storeLogsSpec)

/-- ITS FALSE NEIGHBOUR: 'it returns false'. Refute it at one input. -/
def storeLogsWrong : ChangeSpec := { name := "storeLogs", fn := fun _ => fun
  | [d] => { results := [.lit (.bool false)], args := [d] }
  | _ => none }
def StoreLogsWrongFalsely : Prop := storeLogsRow.holds Tryz.pinned (OpenSpec.ofChange storeLogsWrong)

/-- 'pillarboxlaw18.StoreNil': WHATEVER THE INPUT: true; the input reads as it did. -/
def storeNilSpec : ChangeSpec := { name := "storeNil", fn := fun _ => fun
  | [d1, d2, d3, d4] => { results := [.lit (.bool true)], args := [d1, d2, d3, d4] }
  | _ => none }
def storeNilRow : OpenClaim := { program := "ytmbibhphpjmboaagreatdoor", sum := "0ad1d2e7a4140f4d9fabbd953cfa79cfef08ea40b4f1517c2d9dc5c36a03edd5", func := "pillarbox/pillarboxlaw18.StoreNil", spec := "storeNil", inPlace := ["sync/atomic.LoadInt64", "sync/atomic.AddInt64", "internal/bytealg.IndexByteString", "internal/bytealg.IndexString", "sync/atomic.StoreInt64"], unfollowed := true, recurses := true, named := ["internal/bytealg.MaxLen", "unicode/utf8.first", "unicode/utf8.acceptRanges"], apart := false, laid := [("unicode/utf8.acceptRanges", laid_unicode_utf8_acceptRanges), ("unicode/utf8.first", laid_unicode_utf8_first)] }
def StoreNilSaid : Prop := storeNilRow.holds Tryz.pinned (OpenSpec.ofChange storeNilSpec)

/-- ITS FALSE NEIGHBOUR: 'it returns false'. Refute it at one input. -/
def storeNilWrong : ChangeSpec := { name := "storeNil", fn := fun _ => fun
  | [d1, d2, d3, d4] => { results := [.lit (.bool false)], args := [d1, d2, d3, d4] }
  | _ => none }
def StoreNilWrongFalsely : Prop := storeNilRow.holds Tryz.pinned (OpenSpec.ofChange storeNilWrong)

/- THE SECOND FORM. 'bulk': how many values and letters a reading holds, each counted each time it is reached (what is shared counts as often as it is met; a slice's spare places count too). A statement '..UptoSaid' is the law's where the arguments, and the package variables that the reading takes, are together of bulk at most 1048576: NARROWER than '..Said'. Prove '..Said' where nothing that the law and all that it calls make is longer than what came in: it says more and counts as full. Else prove '..UptoSaid'. A law counts once. -/
mutual
def uptoBulk {H : Type} : DataW H → Nat
  | .lit (.string bytes) => bytes.length + 1
  | .lit _ => 1
  | .nil => 1
  | .ptr d => uptoBulk d + 1
  | .slice elems spare => uptoBulkAll elems + uptoBulkAll spare + 1
  | .agg parts => uptoBulkAll parts + 1
  | .iface _ d => uptoBulk d + 1
  | .map entries => uptoBulkEntries entries + 1
  | .held _ => 1
def uptoBulkAll {H : Type} : List (DataW H) → Nat
  | [] => 0
  | d :: r => uptoBulk d + uptoBulkAll r
def uptoBulkEntries {H : Type} : List (Lit × DataW H) → Nat
  | [] => 0
  | x :: r => uptoBulkEntry x + uptoBulkEntries r
def uptoBulkEntry {H : Type} : Lit × DataW H → Nat
  | (.string bytes, d) => bytes.length + uptoBulk d + 1
  | (_, d) => uptoBulk d + 1
 end
def uptoSmall : (H : Type) → List (DataW H) → Bool := fun _ ds => decide (uptoBulkAll ds ≤ 1048576)
def OpenSpec.upto (s : _root_.Go.ChangeSpec) : _root_.Go.OpenSpec := { _root_.Go.OpenSpec.ofChange s with cond := some uptoSmall }

/-- 'pillarboxlaw18.StoreThreads', WHERE WHAT IT READS IS OF BULK AT MOST 1048576: true; the input reads as it did. -/
def storeThreadsUptoRow : OpenClaim := { program := "ytmbibhphpjmboaagreatdoor", sum := "0ad1d2e7a4140f4d9fabbd953cfa79cfef08ea40b4f1517c2d9dc5c36a03edd5", func := "pillarbox/pillarboxlaw18.StoreThreads", spec := "storeThreads", inPlace := ["internal/bytealg.IndexByteString", "sync/atomic.StoreInt64", "sync/atomic.LoadInt64", "sync/atomic.AddInt64", "internal/bytealg.IndexString"], unfollowed := true, recurses := true, named := ["internal/bytealg.MaxLen", "unicode/utf8.first", "unicode/utf8.acceptRanges"], apart := false, laid := [("unicode/utf8.acceptRanges", laid_unicode_utf8_acceptRanges), ("unicode/utf8.first", laid_unicode_utf8_first)], narrowed := true }
def StoreThreadsUptoSaid : Prop := storeThreadsUptoRow.holds Tryz.pinned (OpenSpec.upto storeThreadsSpec)

/-- 'pillarboxlaw18.StoreNews', WHERE WHAT IT READS IS OF BULK AT MOST 1048576: true; the input reads as it did. -/
def storeNewsUptoRow : OpenClaim := { program := "ytmbibhphpjmboaagreatdoor", sum := "0ad1d2e7a4140f4d9fabbd953cfa79cfef08ea40b4f1517c2d9dc5c36a03edd5", func := "pillarbox/pillarboxlaw18.StoreNews", spec := "storeNews", inPlace := ["internal/bytealg.IndexByteString", "sync/atomic.StoreInt64", "sync/atomic.LoadInt64", "sync/atomic.AddInt64", "internal/bytealg.IndexString"], unfollowed := true, recurses := true, named := ["internal/bytealg.MaxLen", "unicode/utf8.first", "unicode/utf8.acceptRanges"], apart := false, laid := [("unicode/utf8.acceptRanges", laid_unicode_utf8_acceptRanges), ("unicode/utf8.first", laid_unicode_utf8_first)], narrowed := true }
def StoreNewsUptoSaid : Prop := storeNewsUptoRow.holds Tryz.pinned (OpenSpec.upto storeNewsSpec)

/-- 'pillarboxlaw18.StoreSeen', WHERE WHAT IT READS IS OF BULK AT MOST 1048576: true; the input reads as it did. -/
def storeSeenUptoRow : OpenClaim := { program := "ytmbibhphpjmboaagreatdoor", sum := "0ad1d2e7a4140f4d9fabbd953cfa79cfef08ea40b4f1517c2d9dc5c36a03edd5", func := "pillarbox/pillarboxlaw18.StoreSeen", spec := "storeSeen", inPlace := ["internal/bytealg.IndexByteString", "sync/atomic.StoreInt64", "sync/atomic.LoadInt64", "sync/atomic.AddInt64", "internal/bytealg.IndexString"], unfollowed := true, recurses := true, named := ["internal/bytealg.MaxLen", "unicode/utf8.first", "unicode/utf8.acceptRanges"], apart := false, laid := [("unicode/utf8.acceptRanges", laid_unicode_utf8_acceptRanges), ("unicode/utf8.first", laid_unicode_utf8_first)], narrowed := true }
def StoreSeenUptoSaid : Prop := storeSeenUptoRow.holds Tryz.pinned (OpenSpec.upto storeSeenSpec)

/-- 'pillarboxlaw18.StoreFull', WHERE WHAT IT READS IS OF BULK AT MOST 1048576: true; the input reads as it did. -/
def storeFullUptoRow : OpenClaim := { program := "ytmbibhphpjmboaagreatdoor", sum := "0ad1d2e7a4140f4d9fabbd953cfa79cfef08ea40b4f1517c2d9dc5c36a03edd5", func := "pillarbox/pillarboxlaw18.StoreFull", spec := "storeFull", inPlace := ["internal/bytealg.IndexByteString", "sync/atomic.StoreInt64", "sync/atomic.LoadInt64", "sync/atomic.AddInt64", "internal/bytealg.IndexString"], unfollowed := true, recurses := true, named := ["internal/bytealg.MaxLen", "unicode/utf8.first", "unicode/utf8.acceptRanges"], apart := false, laid := [("unicode/utf8.acceptRanges", laid_unicode_utf8_acceptRanges), ("unicode/utf8.first", laid_unicode_utf8_first)], narrowed := true }
def StoreFullUptoSaid : Prop := storeFullUptoRow.holds Tryz.pinned (OpenSpec.upto storeFullSpec)

/-- 'pillarboxlaw18.StoreBoxes', WHERE WHAT IT READS IS OF BULK AT MOST 1048576: true; the input reads as it did. -/
def storeBoxesUptoRow : OpenClaim := { program := "ytmbibhphpjmboaagreatdoor", sum := "0ad1d2e7a4140f4d9fabbd953cfa79cfef08ea40b4f1517c2d9dc5c36a03edd5", func := "pillarbox/pillarboxlaw18.StoreBoxes", spec := "storeBoxes", inPlace := ["internal/bytealg.IndexByteString", "sync/atomic.StoreInt64", "sync/atomic.LoadInt64", "sync/atomic.AddInt64", "internal/bytealg.IndexString"], unfollowed := true, recurses := true, named := ["internal/bytealg.MaxLen", "unicode/utf8.first", "unicode/utf8.acceptRanges"], apart := false, laid := [("unicode/utf8.acceptRanges", laid_unicode_utf8_acceptRanges), ("unicode/utf8.first", laid_unicode_utf8_first)], narrowed := true }
def StoreBoxesUptoSaid : Prop := storeBoxesUptoRow.holds Tryz.pinned (OpenSpec.upto storeBoxesSpec)

/-- 'pillarboxlaw18.StoreEnds', WHERE WHAT IT READS IS OF BULK AT MOST 1048576: true; the input reads as it did. -/
def storeEndsUptoRow : OpenClaim := { program := "ytmbibhphpjmboaagreatdoor", sum := "0ad1d2e7a4140f4d9fabbd953cfa79cfef08ea40b4f1517c2d9dc5c36a03edd5", func := "pillarbox/pillarboxlaw18.StoreEnds", spec := "storeEnds", inPlace := ["internal/bytealg.IndexByteString", "sync/atomic.StoreInt64", "sync/atomic.LoadInt64", "sync/atomic.AddInt64", "internal/bytealg.IndexString"], unfollowed := true, recurses := true, named := ["internal/bytealg.MaxLen", "unicode/utf8.first", "unicode/utf8.acceptRanges"], apart := false, laid := [("unicode/utf8.acceptRanges", laid_unicode_utf8_acceptRanges), ("unicode/utf8.first", laid_unicode_utf8_first)], narrowed := true }
def StoreEndsUptoSaid : Prop := storeEndsUptoRow.holds Tryz.pinned (OpenSpec.upto storeEndsSpec)

/-- 'pillarboxlaw18.StoreRefuses', WHERE WHAT IT READS IS OF BULK AT MOST 1048576: true; the input reads as it did. -/
def storeRefusesUptoRow : OpenClaim := { program := "ytmbibhphpjmboaagreatdoor", sum := "0ad1d2e7a4140f4d9fabbd953cfa79cfef08ea40b4f1517c2d9dc5c36a03edd5", func := "pillarbox/pillarboxlaw18.StoreRefuses", spec := "storeRefuses", inPlace := ["internal/bytealg.IndexByteString", "sync/atomic.StoreInt64", "sync/atomic.LoadInt64", "sync/atomic.AddInt64", "internal/bytealg.IndexString"], unfollowed := true, recurses := true, named := ["internal/bytealg.MaxLen", "unicode/utf8.first", "unicode/utf8.acceptRanges"], apart := false, laid := [("unicode/utf8.acceptRanges", laid_unicode_utf8_acceptRanges), ("unicode/utf8.first", laid_unicode_utf8_first)], narrowed := true }
def StoreRefusesUptoSaid : Prop := storeRefusesUptoRow.holds Tryz.pinned (OpenSpec.upto storeRefusesSpec)

/-- 'pillarboxlaw18.StoreUids', WHERE WHAT IT READS IS OF BULK AT MOST 1048576: true; the input reads as it did. -/
def storeUidsUptoRow : OpenClaim := { program := "ytmbibhphpjmboaagreatdoor", sum := "0ad1d2e7a4140f4d9fabbd953cfa79cfef08ea40b4f1517c2d9dc5c36a03edd5", func := "pillarbox/pillarboxlaw18.StoreUids", spec := "storeUids", inPlace := ["internal/bytealg.IndexByteString", "sync/atomic.StoreInt64", "sync/atomic.LoadInt64", "sync/atomic.AddInt64", "internal/bytealg.IndexString"], unfollowed := true, recurses := true, named := ["internal/bytealg.MaxLen", "unicode/utf8.first", "unicode/utf8.acceptRanges"], apart := false, laid := [("unicode/utf8.acceptRanges", laid_unicode_utf8_acceptRanges), ("unicode/utf8.first", laid_unicode_utf8_first)], narrowed := true }
def StoreUidsUptoSaid : Prop := storeUidsUptoRow.holds Tryz.pinned (OpenSpec.upto storeUidsSpec)

/-- 'pillarboxlaw18.StoreRuns', WHERE WHAT IT READS IS OF BULK AT MOST 1048576: true; the input reads as it did. -/
def storeRunsUptoRow : OpenClaim := { program := "ytmbibhphpjmboaagreatdoor", sum := "0ad1d2e7a4140f4d9fabbd953cfa79cfef08ea40b4f1517c2d9dc5c36a03edd5", func := "pillarbox/pillarboxlaw18.StoreRuns", spec := "storeRuns", inPlace := ["internal/bytealg.IndexByteString", "sync/atomic.StoreInt64", "sync/atomic.LoadInt64", "sync/atomic.AddInt64", "internal/bytealg.IndexString"], unfollowed := true, recurses := true, named := ["internal/bytealg.MaxLen", "unicode/utf8.first", "unicode/utf8.acceptRanges"], apart := false, laid := [("unicode/utf8.acceptRanges", laid_unicode_utf8_acceptRanges), ("unicode/utf8.first", laid_unicode_utf8_first)], narrowed := true }
def StoreRunsUptoSaid : Prop := storeRunsUptoRow.holds Tryz.pinned (OpenSpec.upto storeRunsSpec)

/-- 'pillarboxlaw18.StoreCopies', WHERE WHAT IT READS IS OF BULK AT MOST 1048576: true; the input reads as it did. -/
def storeCopiesUptoRow : OpenClaim := { program := "ytmbibhphpjmboaagreatdoor", sum := "0ad1d2e7a4140f4d9fabbd953cfa79cfef08ea40b4f1517c2d9dc5c36a03edd5", func := "pillarbox/pillarboxlaw18.StoreCopies", spec := "storeCopies", inPlace := ["internal/bytealg.IndexByteString", "sync/atomic.StoreInt64", "sync/atomic.LoadInt64", "sync/atomic.AddInt64", "internal/bytealg.IndexString"], unfollowed := true, recurses := true, named := ["internal/bytealg.MaxLen", "unicode/utf8.first", "unicode/utf8.acceptRanges"], apart := false, laid := [("unicode/utf8.acceptRanges", laid_unicode_utf8_acceptRanges), ("unicode/utf8.first", laid_unicode_utf8_first)], narrowed := true }
def StoreCopiesUptoSaid : Prop := storeCopiesUptoRow.holds Tryz.pinned (OpenSpec.upto storeCopiesSpec)

/-- 'pillarboxlaw18.StoreLogs', WHERE WHAT IT READS IS OF BULK AT MOST 1048576: true; the input reads as it did. -/
def storeLogsUptoRow : OpenClaim := { program := "ytmbibhphpjmboaagreatdoor", sum := "0ad1d2e7a4140f4d9fabbd953cfa79cfef08ea40b4f1517c2d9dc5c36a03edd5", func := "pillarbox/pillarboxlaw18.StoreLogs", spec := "storeLogs", inPlace := ["internal/bytealg.IndexByteString", "sync/atomic.StoreInt64", "sync/atomic.LoadInt64", "sync/atomic.AddInt64", "internal/bytealg.IndexString"], unfollowed := true, recurses := true, named := ["internal/bytealg.MaxLen", "unicode/utf8.first", "unicode/utf8.acceptRanges"], apart := false, laid := [("unicode/utf8.acceptRanges", laid_unicode_utf8_acceptRanges), ("unicode/utf8.first", laid_unicode_utf8_first)], narrowed := true }
def StoreLogsUptoSaid : Prop := storeLogsUptoRow.holds Tryz.pinned (OpenSpec.upto storeLogsSpec)

/-- 'pillarboxlaw18.StoreNil', WHERE WHAT IT READS IS OF BULK AT MOST 1048576: true; the input reads as it did. -/
def storeNilUptoRow : OpenClaim := { program := "ytmbibhphpjmboaagreatdoor", sum := "0ad1d2e7a4140f4d9fabbd953cfa79cfef08ea40b4f1517c2d9dc5c36a03edd5", func := "pillarbox/pillarboxlaw18.StoreNil", spec := "storeNil", inPlace := ["sync/atomic.LoadInt64", "sync/atomic.AddInt64", "internal/bytealg.IndexByteString", "internal/bytealg.IndexString", "sync/atomic.StoreInt64"], unfollowed := true, recurses := true, named := ["internal/bytealg.MaxLen", "unicode/utf8.first", "unicode/utf8.acceptRanges"], apart := false, laid := [("unicode/utf8.acceptRanges", laid_unicode_utf8_acceptRanges), ("unicode/utf8.first", laid_unicode_utf8_first)], narrowed := true }
def StoreNilUptoSaid : Prop := storeNilUptoRow.holds Tryz.pinned (OpenSpec.upto storeNilSpec)

end Rows
end Go.Proofs.YtmbibhphpjmboaaGreatDoor
