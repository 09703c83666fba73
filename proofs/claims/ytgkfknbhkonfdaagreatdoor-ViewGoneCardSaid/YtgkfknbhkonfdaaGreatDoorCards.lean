/-
  DERIVED. GIVEN WITH THE SEED: THE CARDS: each row of YtgkfknbhkonfdaaGreatDoorRows.lean that lists a variable, with what it lists TIED to the program's text (the seventh form; the later family's looks); each row that meets fmt, with fmt's text TOLD by the authors' own Lean function (tested against real Go, not proved from fmt's source: count such statements apart). THE CARD IS WHAT COUNTS. Prove the row's statement (the work); the ties are given (YtgkfknbhkonfdaaGreatDoorTie.lean); close each card by the builder's one call (the guide's Derived/Test/ToyasCard.lean, 'card_holds'). Laid BY PROGRAM, IN A SANDBOX (cutbox-door.mjs). By AI agents, Wed Nov 11 2026. No macro, syntax, notation, axiom, sorry.
-/
import Derived.Test.YtgkfknbhkonfdaaGreatDoorRows
import GoSem.ClaimSeven
namespace Go.Proofs.YtgkfknbhkonfdaaGreatDoor
namespace Rows

/-- THE TIED CARD OF 'pillarboxlaw24.ViewFollows'. -/
def viewFollowsCard : Claim7 := { stood := { row := viewFollowsRow, standIns := [], harness := (true, "c31505811cf375923d2628338441f8ce587dc720d64545d75a7d1fee9d8e6d84"), looks := false }, kinds := [], alts := [], laidByText := true, laidKinds := [.data, .data, .data, .data, .pinned], laidTests := true, laidLooks := .later }
def ViewFollowsCardSaid : Prop := Claim7.holds Tryz.pinned (.plain (OpenSpec.ofChange viewFollowsSpec)) viewFollowsCard

/-- THE TIED CARD OF 'pillarboxlaw24.ViewGone'. -/
def viewGoneCard : Claim7 := { stood := { row := viewGoneRow, standIns := [], harness := (true, "c31505811cf375923d2628338441f8ce587dc720d64545d75a7d1fee9d8e6d84"), looks := false }, kinds := [], alts := [], laidByText := true, laidKinds := [.data, .data, .data, .data, .pinned], laidTests := true, laidLooks := .later }
def ViewGoneCardSaid : Prop := Claim7.holds Tryz.pinned (.plain (OpenSpec.ofChange viewGoneSpec)) viewGoneCard

/-- THE TIED CARD OF 'pillarboxlaw24.ViewTold'. -/
def viewToldCard : Claim7 := { stood := { row := viewToldRow, standIns := [], harness := (true, "c31505811cf375923d2628338441f8ce587dc720d64545d75a7d1fee9d8e6d84"), looks := false }, kinds := [], alts := [], laidByText := true, laidKinds := [.data, .data, .data, .data, .pinned], laidTests := true, laidLooks := .later }
def ViewToldCardSaid : Prop := Claim7.holds Tryz.pinned (.plain (OpenSpec.ofChange viewToldSpec)) viewToldCard

/-- THE TIED CARD OF 'pillarboxlaw24.ViewNew'. -/
def viewNewCard : Claim7 := { stood := { row := viewNewRow, standIns := [], harness := (true, "c31505811cf375923d2628338441f8ce587dc720d64545d75a7d1fee9d8e6d84"), looks := false }, kinds := [], alts := [], laidByText := true, laidKinds := [.data, .data, .data, .data, .pinned], laidTests := true, laidLooks := .later }
def ViewNewCardSaid : Prop := Claim7.holds Tryz.pinned (.plain (OpenSpec.ofChange viewNewSpec)) viewNewCard

/-- THE TIED CARD OF 'pillarboxlaw24.ViewRuns'. -/
def viewRunsCard : Claim7 := { stood := { row := viewRunsRow, standIns := [], harness := (true, "c31505811cf375923d2628338441f8ce587dc720d64545d75a7d1fee9d8e6d84"), looks := false }, kinds := [], alts := [], laidByText := true, laidKinds := [.data, .data, .data, .data, .pinned], laidTests := true, laidLooks := .later }
def ViewRunsCardSaid : Prop := Claim7.holds Tryz.pinned (.plain (OpenSpec.ofChange viewRunsSpec)) viewRunsCard

/-- THE TIED CARD OF 'pillarboxlaw24.ViewNil'. -/
def viewNilCard : Claim7 := { stood := { row := viewNilRow, standIns := [], harness := (true, "c31505811cf375923d2628338441f8ce587dc720d64545d75a7d1fee9d8e6d84"), looks := false }, kinds := [], alts := [], laidByText := true, laidKinds := [.data, .data, .data, .data, .pinned], laidTests := true, laidLooks := .later }
def ViewNilCardSaid : Prop := Claim7.holds Tryz.pinned (.plain (OpenSpec.ofChange viewNilSpec)) viewNilCard

/-- THE SECOND FORM's CARD OF 'pillarboxlaw24.ViewFollows'. -/
def viewFollowsUptoCard : Claim7 := { stood := { row := viewFollowsUptoRow, standIns := [], harness := (true, "c31505811cf375923d2628338441f8ce587dc720d64545d75a7d1fee9d8e6d84"), looks := false }, kinds := [], alts := [], laidByText := true, laidKinds := [.data, .data, .data, .data, .pinned], laidTests := true, laidLooks := .later }
def ViewFollowsUptoCardSaid : Prop := Claim7.holds Tryz.pinned (.plain (OpenSpec.upto viewFollowsSpec)) viewFollowsUptoCard

/-- THE SECOND FORM's CARD OF 'pillarboxlaw24.ViewGone'. -/
def viewGoneUptoCard : Claim7 := { stood := { row := viewGoneUptoRow, standIns := [], harness := (true, "c31505811cf375923d2628338441f8ce587dc720d64545d75a7d1fee9d8e6d84"), looks := false }, kinds := [], alts := [], laidByText := true, laidKinds := [.data, .data, .data, .data, .pinned], laidTests := true, laidLooks := .later }
def ViewGoneUptoCardSaid : Prop := Claim7.holds Tryz.pinned (.plain (OpenSpec.upto viewGoneSpec)) viewGoneUptoCard

/-- THE SECOND FORM's CARD OF 'pillarboxlaw24.ViewTold'. -/
def viewToldUptoCard : Claim7 := { stood := { row := viewToldUptoRow, standIns := [], harness := (true, "c31505811cf375923d2628338441f8ce587dc720d64545d75a7d1fee9d8e6d84"), looks := false }, kinds := [], alts := [], laidByText := true, laidKinds := [.data, .data, .data, .data, .pinned], laidTests := true, laidLooks := .later }
def ViewToldUptoCardSaid : Prop := Claim7.holds Tryz.pinned (.plain (OpenSpec.upto viewToldSpec)) viewToldUptoCard

/-- THE SECOND FORM's CARD OF 'pillarboxlaw24.ViewNew'. -/
def viewNewUptoCard : Claim7 := { stood := { row := viewNewUptoRow, standIns := [], harness := (true, "c31505811cf375923d2628338441f8ce587dc720d64545d75a7d1fee9d8e6d84"), looks := false }, kinds := [], alts := [], laidByText := true, laidKinds := [.data, .data, .data, .data, .pinned], laidTests := true, laidLooks := .later }
def ViewNewUptoCardSaid : Prop := Claim7.holds Tryz.pinned (.plain (OpenSpec.upto viewNewSpec)) viewNewUptoCard

/-- THE SECOND FORM's CARD OF 'pillarboxlaw24.ViewRuns'. -/
def viewRunsUptoCard : Claim7 := { stood := { row := viewRunsUptoRow, standIns := [], harness := (true, "c31505811cf375923d2628338441f8ce587dc720d64545d75a7d1fee9d8e6d84"), looks := false }, kinds := [], alts := [], laidByText := true, laidKinds := [.data, .data, .data, .data, .pinned], laidTests := true, laidLooks := .later }
def ViewRunsUptoCardSaid : Prop := Claim7.holds Tryz.pinned (.plain (OpenSpec.upto viewRunsSpec)) viewRunsUptoCard

/-- THE SECOND FORM's CARD OF 'pillarboxlaw24.ViewNil'. -/
def viewNilUptoCard : Claim7 := { stood := { row := viewNilUptoRow, standIns := [], harness := (true, "c31505811cf375923d2628338441f8ce587dc720d64545d75a7d1fee9d8e6d84"), looks := false }, kinds := [], alts := [], laidByText := true, laidKinds := [.data, .data, .data, .data, .pinned], laidTests := true, laidLooks := .later }
def ViewNilUptoCardSaid : Prop := Claim7.holds Tryz.pinned (.plain (OpenSpec.upto viewNilSpec)) viewNilUptoCard
end Rows
end Go.Proofs.YtgkfknbhkonfdaaGreatDoor
