/-
  DERIVED. GIVEN WITH THE SEED: THE CARDS: each row of YtogmdfjgedekgaaDoorRows.lean that lists a variable, with what it lists TIED to the program's text (the seventh form; the later family's looks); each row that meets fmt, with fmt's text TOLD by the authors' own Lean function (tested against real Go, not proved from fmt's source: count such statements apart). THE CARD IS WHAT COUNTS. Prove the row's statement (the work); the ties are given (YtogmdfjgedekgaaDoorTie.lean); close each card by the builder's one call (the guide's Derived/Test/ToyasCard.lean, 'card_holds'). Laid BY PROGRAM, IN A SANDBOX (cutbox-door.mjs). By AI agents, Wed Nov 11 2026. No macro, syntax, notation, axiom, sorry.
-/
import Derived.Test.YtogmdfjgedekgaaDoorRows
import GoSem.ClaimSeven
namespace Go.Proofs.YtogmdfjgedekgaaDoor
namespace Rows

/-- THE TIED CARD OF 'pillarboxlaw21.SeqTurns'. -/
def seqTurnsCard : Claim7 := { stood := { row := seqTurnsRow, standIns := [], harness := (true, "8657cfa3a689f360b7ee475a616e6293b08cec29d8de8f7046f6033412ffd525"), looks := false }, kinds := [], alts := [], laidByText := true, laidKinds := [.data, .pinned], laidTests := true, laidLooks := .later }
def SeqTurnsCardSaid : Prop := Claim7.holds Tryd.pinned (.plain (OpenSpec.ofChange seqTurnsSpec)) seqTurnsCard

/-- THE TIED CARD OF 'pillarboxlaw21.SeqBad'. -/
def seqBadCard : Claim7 := { stood := { row := seqBadRow, standIns := [], harness := (true, "8657cfa3a689f360b7ee475a616e6293b08cec29d8de8f7046f6033412ffd525"), looks := false }, kinds := [], alts := [], laidByText := true, laidKinds := [.data, .pinned], laidTests := true, laidLooks := .later }
def SeqBadCardSaid : Prop := Claim7.holds Tryd.pinned (.plain (OpenSpec.ofChange seqBadSpec)) seqBadCard

/-- THE TIED CARD OF 'pillarboxlaw21.SeqEmpty'. -/
def seqEmptyCard : Claim7 := { stood := { row := seqEmptyRow, standIns := [], harness := (true, "8657cfa3a689f360b7ee475a616e6293b08cec29d8de8f7046f6033412ffd525"), looks := false }, kinds := [], alts := [], laidByText := true, laidKinds := [.data, .pinned], laidTests := true, laidLooks := .later }
def SeqEmptyCardSaid : Prop := Claim7.holds Tryd.pinned (.plain (OpenSpec.ofChange seqEmptySpec)) seqEmptyCard

/-- THE TIED CARD OF 'pillarboxlaw23.CritBad'. -/
def critBadCard : Claim7 := { stood := { row := critBadRow, standIns := [], harness := (true, "8657cfa3a689f360b7ee475a616e6293b08cec29d8de8f7046f6033412ffd525"), looks := false }, kinds := [], alts := [], laidByText := true, laidKinds := [.data, .pinned], laidTests := true, laidLooks := .later }
def CritBadCardSaid : Prop := Claim7.holds Tryd.pinned (.plain (OpenSpec.ofChange critBadSpec)) critBadCard

/-- THE TIED CARD OF 'pillarboxlaw21.SeqAll'. -/
def seqAllCard : Claim7 := { stood := { row := seqAllRow, standIns := [], harness := (true, "8657cfa3a689f360b7ee475a616e6293b08cec29d8de8f7046f6033412ffd525"), looks := false }, kinds := [], alts := [], laidByText := true, laidKinds := [.data, .data, .data, .data, .pinned], laidTests := true, laidLooks := .later }
def SeqAllCardSaid : Prop := Claim7.holds Tryd.pinned (.plain (OpenSpec.ofChange seqAllSpec)) seqAllCard

/-- THE TIED CARD OF 'pillarboxlaw21.SeqBack'. -/
def seqBackCard : Claim7 := { stood := { row := seqBackRow, standIns := [], harness := (true, "8657cfa3a689f360b7ee475a616e6293b08cec29d8de8f7046f6033412ffd525"), looks := false }, kinds := [], alts := [], laidByText := true, laidKinds := [.data, .data, .data, .data, .pinned], laidTests := true, laidLooks := .later }
def SeqBackCardSaid : Prop := Claim7.holds Tryd.pinned (.plain (OpenSpec.ofChange seqBackSpec)) seqBackCard

/-- THE SECOND FORM's CARD OF 'pillarboxlaw21.SeqTurns'. -/
def seqTurnsUptoCard : Claim7 := { stood := { row := seqTurnsUptoRow, standIns := [], harness := (true, "8657cfa3a689f360b7ee475a616e6293b08cec29d8de8f7046f6033412ffd525"), looks := false }, kinds := [], alts := [], laidByText := true, laidKinds := [.data, .pinned], laidTests := true, laidLooks := .later }
def SeqTurnsUptoCardSaid : Prop := Claim7.holds Tryd.pinned (.plain (OpenSpec.upto seqTurnsSpec)) seqTurnsUptoCard

/-- THE SECOND FORM's CARD OF 'pillarboxlaw21.SeqBad'. -/
def seqBadUptoCard : Claim7 := { stood := { row := seqBadUptoRow, standIns := [], harness := (true, "8657cfa3a689f360b7ee475a616e6293b08cec29d8de8f7046f6033412ffd525"), looks := false }, kinds := [], alts := [], laidByText := true, laidKinds := [.data, .pinned], laidTests := true, laidLooks := .later }
def SeqBadUptoCardSaid : Prop := Claim7.holds Tryd.pinned (.plain (OpenSpec.upto seqBadSpec)) seqBadUptoCard

/-- THE SECOND FORM's CARD OF 'pillarboxlaw21.SeqEmpty'. -/
def seqEmptyUptoCard : Claim7 := { stood := { row := seqEmptyUptoRow, standIns := [], harness := (true, "8657cfa3a689f360b7ee475a616e6293b08cec29d8de8f7046f6033412ffd525"), looks := false }, kinds := [], alts := [], laidByText := true, laidKinds := [.data, .pinned], laidTests := true, laidLooks := .later }
def SeqEmptyUptoCardSaid : Prop := Claim7.holds Tryd.pinned (.plain (OpenSpec.upto seqEmptySpec)) seqEmptyUptoCard

/-- THE SECOND FORM's CARD OF 'pillarboxlaw23.CritBad'. -/
def critBadUptoCard : Claim7 := { stood := { row := critBadUptoRow, standIns := [], harness := (true, "8657cfa3a689f360b7ee475a616e6293b08cec29d8de8f7046f6033412ffd525"), looks := false }, kinds := [], alts := [], laidByText := true, laidKinds := [.data, .pinned], laidTests := true, laidLooks := .later }
def CritBadUptoCardSaid : Prop := Claim7.holds Tryd.pinned (.plain (OpenSpec.upto critBadSpec)) critBadUptoCard

/-- THE SECOND FORM's CARD OF 'pillarboxlaw21.SeqAll'. -/
def seqAllUptoCard : Claim7 := { stood := { row := seqAllUptoRow, standIns := [], harness := (true, "8657cfa3a689f360b7ee475a616e6293b08cec29d8de8f7046f6033412ffd525"), looks := false }, kinds := [], alts := [], laidByText := true, laidKinds := [.data, .data, .data, .data, .pinned], laidTests := true, laidLooks := .later }
def SeqAllUptoCardSaid : Prop := Claim7.holds Tryd.pinned (.plain (OpenSpec.upto seqAllSpec)) seqAllUptoCard

/-- THE SECOND FORM's CARD OF 'pillarboxlaw21.SeqBack'. -/
def seqBackUptoCard : Claim7 := { stood := { row := seqBackUptoRow, standIns := [], harness := (true, "8657cfa3a689f360b7ee475a616e6293b08cec29d8de8f7046f6033412ffd525"), looks := false }, kinds := [], alts := [], laidByText := true, laidKinds := [.data, .data, .data, .data, .pinned], laidTests := true, laidLooks := .later }
def SeqBackUptoCardSaid : Prop := Claim7.holds Tryd.pinned (.plain (OpenSpec.upto seqBackSpec)) seqBackUptoCard
end Rows
end Go.Proofs.YtogmdfjgedekgaaDoor
