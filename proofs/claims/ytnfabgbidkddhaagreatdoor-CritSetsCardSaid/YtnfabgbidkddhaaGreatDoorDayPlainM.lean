/-
  A day out of a text, plain: no program in sight.
-/
import Derived.Test.YtnfabgbidkddhaaGreatDoorSeqNumM
import Derived.Test.YtnfabgbidkddhaaGreatDoorPiecesM
namespace Go.Proofs.YtnfabgbidkddhaaGreatDoor
open Go.RowKit

def digL (l : List UInt8) : Int × Bool := if l = [] then (0, false) else match numGo l 0 with
  | none => (0, false)
  | some n => (n, true)
def monthNames : List (List UInt8) := [[106, 97, 110], [102, 101, 98], [109, 97, 114], [97, 112, 114], [109, 97, 121], [106, 117, 110], [106, 117, 108], [97, 117, 103], [115, 101, 112], [111, 99, 116], [110, 111, 118], [100, 101, 99]]
/-- A month by its name; nought: none. -/
def monthL (l : List UInt8) : Int := match monthNames.findIdx? (fun m => m == lowL l) with
  | none => 0
  | some k => (k : Int) + 1
/-- How many days a date is behind the first one of 1970. -/
def daysP (y m d : Int) : Int :=
  let y1 := if m ≤ 2 then y - 1 else y
  let era := (y1 + 400) / 400
  let yy := y1 + 400 - era * 400
  let mm := (m + 9) % 12
  (era - 1) * 146097 + yy * 365 + yy / 4 - yy / 100 + (153 * mm + 2) / 5 + d - 1 - 719468
def longP (y m : Int) : Int := if m = 12 then 31 else daysP y (m + 1) 1 - daysP y m 1
def dateL (a b c : List UInt8) : Option Int :=
  if (digL a).2 = true ∧ (digL c).2 = true ∧ c.length = 4 ∧ monthL b ≠ 0 ∧ 1 ≤ (digL a).1 ∧ (digL a).1 ≤ longP (digL c).1 (monthL b) then some (daysP (digL c).1 (monthL b) (digL a).1) else none
def dayOf (o : Option Int) : Int × Int := match o with
  | none => (0, 3)
  | some d => if d < 0 then (0, 3) else (d * 86400, 0)
def day3 : List (List UInt8) → Int × Int
  | [a, b, c] => if 2 < a.length then (0, 3) else dayOf (dateL a b c)
  | _ => (0, 3)
def dayL (l : List UInt8) : Int × Int := day3 (piecesC 45 l)

end Go.Proofs.YtnfabgbidkddhaaGreatDoor
