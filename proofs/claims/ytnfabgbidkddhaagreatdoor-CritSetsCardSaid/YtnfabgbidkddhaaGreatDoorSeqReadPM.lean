/-
  The set that a text tells, plain.
-/
import Derived.Test.YtnfabgbidkddhaaGreatDoorSeqMerge2M
import Derived.Test.YtnfabgbidkddhaaGreatDoorPiecesM
namespace Go.Proofs.YtnfabgbidkddhaaGreatDoor
open Go.RowKit

/-- A range, from the first number on. -/
def clipR (r : Rg) : Rg := (if r.1 < 1 then 1 else r.1, r.2)
def readGo (star : Int) : List (List UInt8) → List Rg → Option (List Rg)
  | [], acc => some acc
  | p :: ps, acc => if (partL p star).2 then readGo star ps (if (clipR (partL p star).1).1 ≤ (clipR (partL p star).1).2 then acc ++ [clipR (partL p star).1] else acc) else none
def readL (l : List UInt8) (star : Int) : List Rg × Int :=
  if 1000 < l.length then ([], 2) else match readGo star (piecesC 44 l) [] with
    | none => ([], 3)
    | some a => (mergeR a, 0)

end Go.Proofs.YtnfabgbidkddhaaGreatDoor
