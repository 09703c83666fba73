/-
  DERIVED. GIVEN WITH THE SEED: THE CARDS: each row of YtnofkliaofgiaaaGreatDoorRows.lean that lists a variable, with what it lists TIED to the program's text (the seventh form; the later family's looks); each row that meets fmt, with fmt's text TOLD by the authors' own Lean function (tested against real Go, not proved from fmt's source: count such statements apart). THE CARD IS WHAT COUNTS. Prove the row's statement (the work); the ties are given (YtnofkliaofgiaaaGreatDoorTie.lean); close each card by the builder's one call (the guide's Derived/Test/ToyasCard.lean, 'card_holds'). Laid BY PROGRAM, IN A SANDBOX (cutbox-door.mjs). By AI agents, Wed Nov 11 2026. No macro, syntax, notation, axiom, sorry.
-/
import Derived.Test.YtnofkliaofgiaaaGreatDoorRows
import GoSem.ClaimSeven
namespace Go.Proofs.YtnofkliaofgiaaaGreatDoor
namespace Rows

/-- THE TIED CARD OF 'pillarboxlaw24.ViewFollows'. -/
def viewFollowsCard : Claim7 := { stood := { row := viewFollowsRow, standIns := [], harness := (true, "0cd6318218203443632e59307f4c36c596060edd3e40bc5bd6ffa982283f89b2"), looks := false }, kinds := [], alts := [], laidByText := true, laidKinds := [.data, .data, .data, .data, .pinned], laidTests := true, laidLooks := .later }
def ViewFollowsCardSaid : Prop := Claim7.holds Tryz.pinned (.plain (OpenSpec.ofChange viewFollowsSpec)) viewFollowsCard

/-- THE TIED CARD OF 'pillarboxlaw24.ViewRuns'. -/
def viewRunsCard : Claim7 := { stood := { row := viewRunsRow, standIns := [], harness := (true, "0cd6318218203443632e59307f4c36c596060edd3e40bc5bd6ffa982283f89b2"), looks := false }, kinds := [], alts := [], laidByText := true, laidKinds := [.data, .data, .data, .data, .pinned], laidTests := true, laidLooks := .later }
def ViewRunsCardSaid : Prop := Claim7.holds Tryz.pinned (.plain (OpenSpec.ofChange viewRunsSpec)) viewRunsCard

/-- THE SECOND FORM's CARD OF 'pillarboxlaw24.ViewFollows'. -/
def viewFollowsUptoCard : Claim7 := { stood := { row := viewFollowsUptoRow, standIns := [], harness := (true, "0cd6318218203443632e59307f4c36c596060edd3e40bc5bd6ffa982283f89b2"), looks := false }, kinds := [], alts := [], laidByText := true, laidKinds := [.data, .data, .data, .data, .pinned], laidTests := true, laidLooks := .later }
def ViewFollowsUptoCardSaid : Prop := Claim7.holds Tryz.pinned (.plain (OpenSpec.upto viewFollowsSpec)) viewFollowsUptoCard

/-- THE SECOND FORM's CARD OF 'pillarboxlaw24.ViewRuns'. -/
def viewRunsUptoCard : Claim7 := { stood := { row := viewRunsUptoRow, standIns := [], harness := (true, "0cd6318218203443632e59307f4c36c596060edd3e40bc5bd6ffa982283f89b2"), looks := false }, kinds := [], alts := [], laidByText := true, laidKinds := [.data, .data, .data, .data, .pinned], laidTests := true, laidLooks := .later }
def ViewRunsUptoCardSaid : Prop := Claim7.holds Tryz.pinned (.plain (OpenSpec.upto viewRunsSpec)) viewRunsUptoCard
end Rows
end Go.Proofs.YtnofkliaofgiaaaGreatDoor
