/-
  DERIVED. GIVEN WITH THE SEED: THE CARDS: each row of YtmbibhphpjmboaaGreatDoorRows.lean that lists a variable, with what it lists TIED to the program's text (the seventh form; the later family's looks); each row that meets fmt, with fmt's text TOLD by the authors' own Lean function (tested against real Go, not proved from fmt's source: count such statements apart). THE CARD IS WHAT COUNTS. Prove the row's statement (the work); the ties are given (YtmbibhphpjmboaaGreatDoorTie.lean); close each card by the builder's one call (the guide's Derived/Test/ToyasCard.lean, 'card_holds'). Laid BY PROGRAM, IN A SANDBOX (cutbox-door.mjs). By AI agents, Wed Nov 11 2026. No macro, syntax, notation, axiom, sorry.
-/
import Derived.Test.YtmbibhphpjmboaaGreatDoorRows
import GoSem.ClaimSeven
namespace Go.Proofs.YtmbibhphpjmboaaGreatDoor
namespace Rows

/-- THE TIED CARD OF 'pillarboxlaw18.StoreThreads'. -/
def storeThreadsCard : Claim7 := { stood := { row := storeThreadsRow, standIns := [], harness := (true, "5f9b48536b44d5f08aa40a5064bb3117d072c78a308351afab095e72fd6c90d0"), looks := false }, kinds := [], alts := [], laidByText := true, laidKinds := [.data, .pinned], laidTests := true, laidLooks := .later }
def StoreThreadsCardSaid : Prop := Claim7.holds Tryz.pinned (.plain (OpenSpec.ofChange storeThreadsSpec)) storeThreadsCard

/-- THE TIED CARD OF 'pillarboxlaw18.StoreNews'. -/
def storeNewsCard : Claim7 := { stood := { row := storeNewsRow, standIns := [], harness := (true, "5f9b48536b44d5f08aa40a5064bb3117d072c78a308351afab095e72fd6c90d0"), looks := false }, kinds := [], alts := [], laidByText := true, laidKinds := [.data, .pinned], laidTests := true, laidLooks := .later }
def StoreNewsCardSaid : Prop := Claim7.holds Tryz.pinned (.plain (OpenSpec.ofChange storeNewsSpec)) storeNewsCard

/-- THE TIED CARD OF 'pillarboxlaw18.StoreSeen'. -/
def storeSeenCard : Claim7 := { stood := { row := storeSeenRow, standIns := [], harness := (true, "5f9b48536b44d5f08aa40a5064bb3117d072c78a308351afab095e72fd6c90d0"), looks := false }, kinds := [], alts := [], laidByText := true, laidKinds := [.data, .pinned], laidTests := true, laidLooks := .later }
def StoreSeenCardSaid : Prop := Claim7.holds Tryz.pinned (.plain (OpenSpec.ofChange storeSeenSpec)) storeSeenCard

/-- THE TIED CARD OF 'pillarboxlaw18.StoreFull'. -/
def storeFullCard : Claim7 := { stood := { row := storeFullRow, standIns := [], harness := (true, "5f9b48536b44d5f08aa40a5064bb3117d072c78a308351afab095e72fd6c90d0"), looks := false }, kinds := [], alts := [], laidByText := true, laidKinds := [.data, .pinned], laidTests := true, laidLooks := .later }
def StoreFullCardSaid : Prop := Claim7.holds Tryz.pinned (.plain (OpenSpec.ofChange storeFullSpec)) storeFullCard

/-- THE TIED CARD OF 'pillarboxlaw18.StoreBoxes'. -/
def storeBoxesCard : Claim7 := { stood := { row := storeBoxesRow, standIns := [], harness := (true, "5f9b48536b44d5f08aa40a5064bb3117d072c78a308351afab095e72fd6c90d0"), looks := false }, kinds := [], alts := [], laidByText := true, laidKinds := [.data, .pinned], laidTests := true, laidLooks := .later }
def StoreBoxesCardSaid : Prop := Claim7.holds Tryz.pinned (.plain (OpenSpec.ofChange storeBoxesSpec)) storeBoxesCard

/-- THE TIED CARD OF 'pillarboxlaw18.StoreEnds'. -/
def storeEndsCard : Claim7 := { stood := { row := storeEndsRow, standIns := [], harness := (true, "5f9b48536b44d5f08aa40a5064bb3117d072c78a308351afab095e72fd6c90d0"), looks := false }, kinds := [], alts := [], laidByText := true, laidKinds := [.data, .pinned], laidTests := true, laidLooks := .later }
def StoreEndsCardSaid : Prop := Claim7.holds Tryz.pinned (.plain (OpenSpec.ofChange storeEndsSpec)) storeEndsCard

/-- THE TIED CARD OF 'pillarboxlaw18.StoreRefuses'. -/
def storeRefusesCard : Claim7 := { stood := { row := storeRefusesRow, standIns := [], harness := (true, "5f9b48536b44d5f08aa40a5064bb3117d072c78a308351afab095e72fd6c90d0"), looks := false }, kinds := [], alts := [], laidByText := true, laidKinds := [.data, .pinned], laidTests := true, laidLooks := .later }
def StoreRefusesCardSaid : Prop := Claim7.holds Tryz.pinned (.plain (OpenSpec.ofChange storeRefusesSpec)) storeRefusesCard

/-- THE TIED CARD OF 'pillarboxlaw18.StoreUids'. -/
def storeUidsCard : Claim7 := { stood := { row := storeUidsRow, standIns := [], harness := (true, "5f9b48536b44d5f08aa40a5064bb3117d072c78a308351afab095e72fd6c90d0"), looks := false }, kinds := [], alts := [], laidByText := true, laidKinds := [.data, .pinned], laidTests := true, laidLooks := .later }
def StoreUidsCardSaid : Prop := Claim7.holds Tryz.pinned (.plain (OpenSpec.ofChange storeUidsSpec)) storeUidsCard

/-- THE TIED CARD OF 'pillarboxlaw18.StoreRuns'. -/
def storeRunsCard : Claim7 := { stood := { row := storeRunsRow, standIns := [], harness := (true, "5f9b48536b44d5f08aa40a5064bb3117d072c78a308351afab095e72fd6c90d0"), looks := false }, kinds := [], alts := [], laidByText := true, laidKinds := [.data, .pinned], laidTests := true, laidLooks := .later }
def StoreRunsCardSaid : Prop := Claim7.holds Tryz.pinned (.plain (OpenSpec.ofChange storeRunsSpec)) storeRunsCard

/-- THE TIED CARD OF 'pillarboxlaw18.StoreCopies'. -/
def storeCopiesCard : Claim7 := { stood := { row := storeCopiesRow, standIns := [], harness := (true, "5f9b48536b44d5f08aa40a5064bb3117d072c78a308351afab095e72fd6c90d0"), looks := false }, kinds := [], alts := [], laidByText := true, laidKinds := [.data, .pinned], laidTests := true, laidLooks := .later }
def StoreCopiesCardSaid : Prop := Claim7.holds Tryz.pinned (.plain (OpenSpec.ofChange storeCopiesSpec)) storeCopiesCard

/-- THE TIED CARD OF 'pillarboxlaw18.StoreLogs'. -/
def storeLogsCard : Claim7 := { stood := { row := storeLogsRow, standIns := [], harness := (true, "5f9b48536b44d5f08aa40a5064bb3117d072c78a308351afab095e72fd6c90d0"), looks := false }, kinds := [], alts := [], laidByText := true, laidKinds := [.data, .pinned], laidTests := true, laidLooks := .later }
def StoreLogsCardSaid : Prop := Claim7.holds Tryz.pinned (.plain (OpenSpec.ofChange storeLogsSpec)) storeLogsCard

/-- THE TIED CARD OF 'pillarboxlaw18.StoreNil'. -/
def storeNilCard : Claim7 := { stood := { row := storeNilRow, standIns := [], harness := (true, "5f9b48536b44d5f08aa40a5064bb3117d072c78a308351afab095e72fd6c90d0"), looks := false }, kinds := [], alts := [], laidByText := true, laidKinds := [.data, .pinned], laidTests := true, laidLooks := .later }
def StoreNilCardSaid : Prop := Claim7.holds Tryz.pinned (.plain (OpenSpec.ofChange storeNilSpec)) storeNilCard

/-- THE SECOND FORM's CARD OF 'pillarboxlaw18.StoreThreads'. -/
def storeThreadsUptoCard : Claim7 := { stood := { row := storeThreadsUptoRow, standIns := [], harness := (true, "5f9b48536b44d5f08aa40a5064bb3117d072c78a308351afab095e72fd6c90d0"), looks := false }, kinds := [], alts := [], laidByText := true, laidKinds := [.data, .pinned], laidTests := true, laidLooks := .later }
def StoreThreadsUptoCardSaid : Prop := Claim7.holds Tryz.pinned (.plain (OpenSpec.upto storeThreadsSpec)) storeThreadsUptoCard

/-- THE SECOND FORM's CARD OF 'pillarboxlaw18.StoreNews'. -/
def storeNewsUptoCard : Claim7 := { stood := { row := storeNewsUptoRow, standIns := [], harness := (true, "5f9b48536b44d5f08aa40a5064bb3117d072c78a308351afab095e72fd6c90d0"), looks := false }, kinds := [], alts := [], laidByText := true, laidKinds := [.data, .pinned], laidTests := true, laidLooks := .later }
def StoreNewsUptoCardSaid : Prop := Claim7.holds Tryz.pinned (.plain (OpenSpec.upto storeNewsSpec)) storeNewsUptoCard

/-- THE SECOND FORM's CARD OF 'pillarboxlaw18.StoreSeen'. -/
def storeSeenUptoCard : Claim7 := { stood := { row := storeSeenUptoRow, standIns := [], harness := (true, "5f9b48536b44d5f08aa40a5064bb3117d072c78a308351afab095e72fd6c90d0"), looks := false }, kinds := [], alts := [], laidByText := true, laidKinds := [.data, .pinned], laidTests := true, laidLooks := .later }
def StoreSeenUptoCardSaid : Prop := Claim7.holds Tryz.pinned (.plain (OpenSpec.upto storeSeenSpec)) storeSeenUptoCard

/-- THE SECOND FORM's CARD OF 'pillarboxlaw18.StoreFull'. -/
def storeFullUptoCard : Claim7 := { stood := { row := storeFullUptoRow, standIns := [], harness := (true, "5f9b48536b44d5f08aa40a5064bb3117d072c78a308351afab095e72fd6c90d0"), looks := false }, kinds := [], alts := [], laidByText := true, laidKinds := [.data, .pinned], laidTests := true, laidLooks := .later }
def StoreFullUptoCardSaid : Prop := Claim7.holds Tryz.pinned (.plain (OpenSpec.upto storeFullSpec)) storeFullUptoCard

/-- THE SECOND FORM's CARD OF 'pillarboxlaw18.StoreBoxes'. -/
def storeBoxesUptoCard : Claim7 := { stood := { row := storeBoxesUptoRow, standIns := [], harness := (true, "5f9b48536b44d5f08aa40a5064bb3117d072c78a308351afab095e72fd6c90d0"), looks := false }, kinds := [], alts := [], laidByText := true, laidKinds := [.data, .pinned], laidTests := true, laidLooks := .later }
def StoreBoxesUptoCardSaid : Prop := Claim7.holds Tryz.pinned (.plain (OpenSpec.upto storeBoxesSpec)) storeBoxesUptoCard

/-- THE SECOND FORM's CARD OF 'pillarboxlaw18.StoreEnds'. -/
def storeEndsUptoCard : Claim7 := { stood := { row := storeEndsUptoRow, standIns := [], harness := (true, "5f9b48536b44d5f08aa40a5064bb3117d072c78a308351afab095e72fd6c90d0"), looks := false }, kinds := [], alts := [], laidByText := true, laidKinds := [.data, .pinned], laidTests := true, laidLooks := .later }
def StoreEndsUptoCardSaid : Prop := Claim7.holds Tryz.pinned (.plain (OpenSpec.upto storeEndsSpec)) storeEndsUptoCard

/-- THE SECOND FORM's CARD OF 'pillarboxlaw18.StoreRefuses'. -/
def storeRefusesUptoCard : Claim7 := { stood := { row := storeRefusesUptoRow, standIns := [], harness := (true, "5f9b48536b44d5f08aa40a5064bb3117d072c78a308351afab095e72fd6c90d0"), looks := false }, kinds := [], alts := [], laidByText := true, laidKinds := [.data, .pinned], laidTests := true, laidLooks := .later }
def StoreRefusesUptoCardSaid : Prop := Claim7.holds Tryz.pinned (.plain (OpenSpec.upto storeRefusesSpec)) storeRefusesUptoCard

/-- THE SECOND FORM's CARD OF 'pillarboxlaw18.StoreUids'. -/
def storeUidsUptoCard : Claim7 := { stood := { row := storeUidsUptoRow, standIns := [], harness := (true, "5f9b48536b44d5f08aa40a5064bb3117d072c78a308351afab095e72fd6c90d0"), looks := false }, kinds := [], alts := [], laidByText := true, laidKinds := [.data, .pinned], laidTests := true, laidLooks := .later }
def StoreUidsUptoCardSaid : Prop := Claim7.holds Tryz.pinned (.plain (OpenSpec.upto storeUidsSpec)) storeUidsUptoCard

/-- THE SECOND FORM's CARD OF 'pillarboxlaw18.StoreRuns'. -/
def storeRunsUptoCard : Claim7 := { stood := { row := storeRunsUptoRow, standIns := [], harness := (true, "5f9b48536b44d5f08aa40a5064bb3117d072c78a308351afab095e72fd6c90d0"), looks := false }, kinds := [], alts := [], laidByText := true, laidKinds := [.data, .pinned], laidTests := true, laidLooks := .later }
def StoreRunsUptoCardSaid : Prop := Claim7.holds Tryz.pinned (.plain (OpenSpec.upto storeRunsSpec)) storeRunsUptoCard

/-- THE SECOND FORM's CARD OF 'pillarboxlaw18.StoreCopies'. -/
def storeCopiesUptoCard : Claim7 := { stood := { row := storeCopiesUptoRow, standIns := [], harness := (true, "5f9b48536b44d5f08aa40a5064bb3117d072c78a308351afab095e72fd6c90d0"), looks := false }, kinds := [], alts := [], laidByText := true, laidKinds := [.data, .pinned], laidTests := true, laidLooks := .later }
def StoreCopiesUptoCardSaid : Prop := Claim7.holds Tryz.pinned (.plain (OpenSpec.upto storeCopiesSpec)) storeCopiesUptoCard

/-- THE SECOND FORM's CARD OF 'pillarboxlaw18.StoreLogs'. -/
def storeLogsUptoCard : Claim7 := { stood := { row := storeLogsUptoRow, standIns := [], harness := (true, "5f9b48536b44d5f08aa40a5064bb3117d072c78a308351afab095e72fd6c90d0"), looks := false }, kinds := [], alts := [], laidByText := true, laidKinds := [.data, .pinned], laidTests := true, laidLooks := .later }
def StoreLogsUptoCardSaid : Prop := Claim7.holds Tryz.pinned (.plain (OpenSpec.upto storeLogsSpec)) storeLogsUptoCard

/-- THE SECOND FORM's CARD OF 'pillarboxlaw18.StoreNil'. -/
def storeNilUptoCard : Claim7 := { stood := { row := storeNilUptoRow, standIns := [], harness := (true, "5f9b48536b44d5f08aa40a5064bb3117d072c78a308351afab095e72fd6c90d0"), looks := false }, kinds := [], alts := [], laidByText := true, laidKinds := [.data, .pinned], laidTests := true, laidLooks := .later }
def StoreNilUptoCardSaid : Prop := Claim7.holds Tryz.pinned (.plain (OpenSpec.upto storeNilSpec)) storeNilUptoCard
end Rows
end Go.Proofs.YtmbibhphpjmboaaGreatDoor
