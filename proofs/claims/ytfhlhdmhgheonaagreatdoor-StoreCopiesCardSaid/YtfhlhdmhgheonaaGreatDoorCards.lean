/-
  DERIVED. GIVEN WITH THE SEED: THE CARDS: each row of YtfhlhdmhgheonaaGreatDoorRows.lean that lists a variable, with what it lists TIED to the program's text (the seventh form; the later family's looks); each row that meets fmt, with fmt's text TOLD by the authors' own Lean function (tested against real Go, not proved from fmt's source: count such statements apart). THE CARD IS WHAT COUNTS. Prove the row's statement (the work); the ties are given (YtfhlhdmhgheonaaGreatDoorTie.lean); close each card by the builder's one call (the guide's Derived/Test/ToyasCard.lean, 'card_holds'). Laid BY PROGRAM, IN A SANDBOX (cutbox-door.mjs). By AI agents, Wed Nov 11 2026. No macro, syntax, notation, axiom, sorry.
-/
import Derived.Test.YtfhlhdmhgheonaaGreatDoorRows
import GoSem.ClaimSeven
namespace Go.Proofs.YtfhlhdmhgheonaaGreatDoor
namespace Rows

/-- THE TIED CARD OF 'pillarboxlaw18.StoreRuns'. -/
def storeRunsCard : Claim7 := { stood := { row := storeRunsRow, standIns := [], harness := (true, "bfb790cca25768f86c0bdf46e0c39b2ddc9a1ee539259de23bf91b4e3635cd32"), looks := false }, kinds := [], alts := [], laidByText := true, laidKinds := [.data, .pinned], laidTests := true, laidLooks := .later }
def StoreRunsCardSaid : Prop := Claim7.holds Tryz.pinned (.plain (OpenSpec.ofChange storeRunsSpec)) storeRunsCard

/-- THE TIED CARD OF 'pillarboxlaw18.StoreCopies'. -/
def storeCopiesCard : Claim7 := { stood := { row := storeCopiesRow, standIns := [], harness := (true, "bfb790cca25768f86c0bdf46e0c39b2ddc9a1ee539259de23bf91b4e3635cd32"), looks := false }, kinds := [], alts := [], laidByText := true, laidKinds := [.data, .pinned], laidTests := true, laidLooks := .later }
def StoreCopiesCardSaid : Prop := Claim7.holds Tryz.pinned (.plain (OpenSpec.ofChange storeCopiesSpec)) storeCopiesCard

/-- THE TIED CARD OF 'pillarboxlaw24.ViewFollows'. -/
def viewFollowsCard : Claim7 := { stood := { row := viewFollowsRow, standIns := [], harness := (true, "bfb790cca25768f86c0bdf46e0c39b2ddc9a1ee539259de23bf91b4e3635cd32"), looks := false }, kinds := [], alts := [], laidByText := true, laidKinds := [.data, .data, .data, .data, .pinned], laidTests := true, laidLooks := .later }
def ViewFollowsCardSaid : Prop := Claim7.holds Tryz.pinned (.plain (OpenSpec.ofChange viewFollowsSpec)) viewFollowsCard

/-- THE TIED CARD OF 'pillarboxlaw24.ViewRuns'. -/
def viewRunsCard : Claim7 := { stood := { row := viewRunsRow, standIns := [], harness := (true, "bfb790cca25768f86c0bdf46e0c39b2ddc9a1ee539259de23bf91b4e3635cd32"), looks := false }, kinds := [], alts := [], laidByText := true, laidKinds := [.data, .data, .data, .data, .pinned], laidTests := true, laidLooks := .later }
def ViewRunsCardSaid : Prop := Claim7.holds Tryz.pinned (.plain (OpenSpec.ofChange viewRunsSpec)) viewRunsCard

/-- THE SECOND FORM's CARD OF 'pillarboxlaw18.StoreRuns'. -/
def storeRunsUptoCard : Claim7 := { stood := { row := storeRunsUptoRow, standIns := [], harness := (true, "bfb790cca25768f86c0bdf46e0c39b2ddc9a1ee539259de23bf91b4e3635cd32"), looks := false }, kinds := [], alts := [], laidByText := true, laidKinds := [.data, .pinned], laidTests := true, laidLooks := .later }
def StoreRunsUptoCardSaid : Prop := Claim7.holds Tryz.pinned (.plain (OpenSpec.upto storeRunsSpec)) storeRunsUptoCard

/-- THE SECOND FORM's CARD OF 'pillarboxlaw18.StoreCopies'. -/
def storeCopiesUptoCard : Claim7 := { stood := { row := storeCopiesUptoRow, standIns := [], harness := (true, "bfb790cca25768f86c0bdf46e0c39b2ddc9a1ee539259de23bf91b4e3635cd32"), looks := false }, kinds := [], alts := [], laidByText := true, laidKinds := [.data, .pinned], laidTests := true, laidLooks := .later }
def StoreCopiesUptoCardSaid : Prop := Claim7.holds Tryz.pinned (.plain (OpenSpec.upto storeCopiesSpec)) storeCopiesUptoCard

/-- THE SECOND FORM's CARD OF 'pillarboxlaw24.ViewFollows'. -/
def viewFollowsUptoCard : Claim7 := { stood := { row := viewFollowsUptoRow, standIns := [], harness := (true, "bfb790cca25768f86c0bdf46e0c39b2ddc9a1ee539259de23bf91b4e3635cd32"), looks := false }, kinds := [], alts := [], laidByText := true, laidKinds := [.data, .data, .data, .data, .pinned], laidTests := true, laidLooks := .later }
def ViewFollowsUptoCardSaid : Prop := Claim7.holds Tryz.pinned (.plain (OpenSpec.upto viewFollowsSpec)) viewFollowsUptoCard

/-- THE SECOND FORM's CARD OF 'pillarboxlaw24.ViewRuns'. -/
def viewRunsUptoCard : Claim7 := { stood := { row := viewRunsUptoRow, standIns := [], harness := (true, "bfb790cca25768f86c0bdf46e0c39b2ddc9a1ee539259de23bf91b4e3635cd32"), looks := false }, kinds := [], alts := [], laidByText := true, laidKinds := [.data, .data, .data, .data, .pinned], laidTests := true, laidLooks := .later }
def ViewRunsUptoCardSaid : Prop := Claim7.holds Tryz.pinned (.plain (OpenSpec.upto viewRunsSpec)) viewRunsUptoCard
end Rows
end Go.Proofs.YtfhlhdmhgheonaaGreatDoor
