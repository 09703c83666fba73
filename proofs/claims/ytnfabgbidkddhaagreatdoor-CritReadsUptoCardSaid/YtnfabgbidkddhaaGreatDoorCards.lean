/-
  DERIVED. GIVEN WITH THE SEED: THE CARDS: each row of YtnfabgbidkddhaaGreatDoorRows.lean that lists a variable, with what it lists TIED to the program's text (the seventh form; the later family's looks); each row that meets fmt, with fmt's text TOLD by the authors' own Lean function (tested against real Go, not proved from fmt's source: count such statements apart). THE CARD IS WHAT COUNTS. Prove the row's statement (the work); the ties are given (YtnfabgbidkddhaaGreatDoorTie.lean); close each card by the builder's one call (the guide's Derived/Test/ToyasCard.lean, 'card_holds'). Laid BY PROGRAM, IN A SANDBOX (cutbox-door.mjs). By AI agents, Wed Nov 11 2026. No macro, syntax, notation, axiom, sorry.
-/
import Derived.Test.YtnfabgbidkddhaaGreatDoorRows
import GoSem.ClaimSeven
namespace Go.Proofs.YtnfabgbidkddhaaGreatDoor
namespace Rows

/-- THE TIED CARD OF 'pillarboxlaw23.CritReads'. -/
def critReadsCard : Claim7 := { stood := { row := critReadsRow, standIns := [], harness := (true, "81c2194b3eedd5da55fa3e17cdf2481460b542aad461479cf3f4222d3eb99d33"), looks := false }, kinds := [], alts := [], laidByText := true, laidKinds := [.data, .pinned], laidTests := true, laidLooks := .later }
def CritReadsCardSaid : Prop := Claim7.holds Tryz.pinned (.plain (OpenSpec.ofChange critReadsSpec)) critReadsCard

/-- THE TIED CARD OF 'pillarboxlaw23.CritRights'. -/
def critRightsCard : Claim7 := { stood := { row := critRightsRow, standIns := [], harness := (true, "81c2194b3eedd5da55fa3e17cdf2481460b542aad461479cf3f4222d3eb99d33"), looks := false }, kinds := [], alts := [], laidByText := true, laidKinds := [.data, .pinned], laidTests := true, laidLooks := .later }
def CritRightsCardSaid : Prop := Claim7.holds Tryz.pinned (.plain (OpenSpec.ofChange critRightsSpec)) critRightsCard

/-- THE TIED CARD OF 'pillarboxlaw23.CritSets'. -/
def critSetsCard : Claim7 := { stood := { row := critSetsRow, standIns := [], harness := (true, "81c2194b3eedd5da55fa3e17cdf2481460b542aad461479cf3f4222d3eb99d33"), looks := false }, kinds := [], alts := [], laidByText := true, laidKinds := [.data, .pinned], laidTests := true, laidLooks := .later }
def CritSetsCardSaid : Prop := Claim7.holds Tryz.pinned (.plain (OpenSpec.ofChange critSetsSpec)) critSetsCard

/-- THE TIED CARD OF 'pillarboxlaw23.CritFlags'. -/
def critFlagsCard : Claim7 := { stood := { row := critFlagsRow, standIns := [], harness := (true, "81c2194b3eedd5da55fa3e17cdf2481460b542aad461479cf3f4222d3eb99d33"), looks := false }, kinds := [], alts := [], laidByText := true, laidKinds := [.data, .pinned], laidTests := true, laidLooks := .later }
def CritFlagsCardSaid : Prop := Claim7.holds Tryz.pinned (.plain (OpenSpec.ofChange critFlagsSpec)) critFlagsCard

/-- THE TIED CARD OF 'pillarboxlaw23.CritDays'. -/
def critDaysCard : Claim7 := { stood := { row := critDaysRow, standIns := [], harness := (true, "81c2194b3eedd5da55fa3e17cdf2481460b542aad461479cf3f4222d3eb99d33"), looks := false }, kinds := [], alts := [], laidByText := true, laidKinds := [.data, .pinned], laidTests := true, laidLooks := .later }
def CritDaysCardSaid : Prop := Claim7.holds Tryz.pinned (.plain (OpenSpec.ofChange critDaysSpec)) critDaysCard

/-- THE SECOND FORM's CARD OF 'pillarboxlaw23.CritReads'. -/
def critReadsUptoCard : Claim7 := { stood := { row := critReadsUptoRow, standIns := [], harness := (true, "81c2194b3eedd5da55fa3e17cdf2481460b542aad461479cf3f4222d3eb99d33"), looks := false }, kinds := [], alts := [], laidByText := true, laidKinds := [.data, .pinned], laidTests := true, laidLooks := .later }
def CritReadsUptoCardSaid : Prop := Claim7.holds Tryz.pinned (.plain (OpenSpec.upto critReadsSpec)) critReadsUptoCard

/-- THE SECOND FORM's CARD OF 'pillarboxlaw23.CritRights'. -/
def critRightsUptoCard : Claim7 := { stood := { row := critRightsUptoRow, standIns := [], harness := (true, "81c2194b3eedd5da55fa3e17cdf2481460b542aad461479cf3f4222d3eb99d33"), looks := false }, kinds := [], alts := [], laidByText := true, laidKinds := [.data, .pinned], laidTests := true, laidLooks := .later }
def CritRightsUptoCardSaid : Prop := Claim7.holds Tryz.pinned (.plain (OpenSpec.upto critRightsSpec)) critRightsUptoCard

/-- THE SECOND FORM's CARD OF 'pillarboxlaw23.CritSets'. -/
def critSetsUptoCard : Claim7 := { stood := { row := critSetsUptoRow, standIns := [], harness := (true, "81c2194b3eedd5da55fa3e17cdf2481460b542aad461479cf3f4222d3eb99d33"), looks := false }, kinds := [], alts := [], laidByText := true, laidKinds := [.data, .pinned], laidTests := true, laidLooks := .later }
def CritSetsUptoCardSaid : Prop := Claim7.holds Tryz.pinned (.plain (OpenSpec.upto critSetsSpec)) critSetsUptoCard

/-- THE SECOND FORM's CARD OF 'pillarboxlaw23.CritFlags'. -/
def critFlagsUptoCard : Claim7 := { stood := { row := critFlagsUptoRow, standIns := [], harness := (true, "81c2194b3eedd5da55fa3e17cdf2481460b542aad461479cf3f4222d3eb99d33"), looks := false }, kinds := [], alts := [], laidByText := true, laidKinds := [.data, .pinned], laidTests := true, laidLooks := .later }
def CritFlagsUptoCardSaid : Prop := Claim7.holds Tryz.pinned (.plain (OpenSpec.upto critFlagsSpec)) critFlagsUptoCard

/-- THE SECOND FORM's CARD OF 'pillarboxlaw23.CritDays'. -/
def critDaysUptoCard : Claim7 := { stood := { row := critDaysUptoRow, standIns := [], harness := (true, "81c2194b3eedd5da55fa3e17cdf2481460b542aad461479cf3f4222d3eb99d33"), looks := false }, kinds := [], alts := [], laidByText := true, laidKinds := [.data, .pinned], laidTests := true, laidLooks := .later }
def CritDaysUptoCardSaid : Prop := Claim7.holds Tryz.pinned (.plain (OpenSpec.upto critDaysSpec)) critDaysUptoCard
end Rows
end Go.Proofs.YtnfabgbidkddhaaGreatDoor
