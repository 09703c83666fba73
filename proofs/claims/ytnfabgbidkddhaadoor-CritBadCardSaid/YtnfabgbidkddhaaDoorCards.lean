/-
  DERIVED. GIVEN WITH THE SEED: THE CARDS: each row of YtnfabgbidkddhaaDoorRows.lean that lists a variable, with what it lists TIED to the program's text (the seventh form; the later family's looks); each row that meets fmt, with fmt's text TOLD by the authors' own Lean function (tested against real Go, not proved from fmt's source: count such statements apart). THE CARD IS WHAT COUNTS. Prove the row's statement (the work); the ties are given (YtnfabgbidkddhaaDoorTie.lean); close each card by the builder's one call (the guide's Derived/Test/ToyasCard.lean, 'card_holds'). Laid BY PROGRAM, IN A SANDBOX (cutbox-door.mjs). By AI agents, Wed Nov 11 2026. No macro, syntax, notation, axiom, sorry.
-/
import Derived.Test.YtnfabgbidkddhaaDoorRows
import GoSem.ClaimSeven
namespace Go.Proofs.YtnfabgbidkddhaaDoor
namespace Rows

/-- THE TIED CARD OF 'pillarboxlaw23.CritBad'. -/
def critBadCard : Claim7 := { stood := { row := critBadRow, standIns := [], harness := (true, "6d9f795a78935c123a91e6e5b39f175042df2941e900fd62b3b45014006f58c9"), looks := false }, kinds := [], alts := [], laidByText := true, laidKinds := [.data, .pinned], laidTests := true, laidLooks := .later }
def CritBadCardSaid : Prop := Claim7.holds Tryd.pinned (.plain (OpenSpec.ofChange critBadSpec)) critBadCard

/-- THE SECOND FORM's CARD OF 'pillarboxlaw23.CritBad'. -/
def critBadUptoCard : Claim7 := { stood := { row := critBadUptoRow, standIns := [], harness := (true, "6d9f795a78935c123a91e6e5b39f175042df2941e900fd62b3b45014006f58c9"), looks := false }, kinds := [], alts := [], laidByText := true, laidKinds := [.data, .pinned], laidTests := true, laidLooks := .later }
def CritBadUptoCardSaid : Prop := Claim7.holds Tryd.pinned (.plain (OpenSpec.upto critBadSpec)) critBadUptoCard
end Rows
end Go.Proofs.YtnfabgbidkddhaaDoor
