/-
  What a key is, and the table of the keys, plain.
-/
import Derived.Test.YtnfabgbidkddhaaGreatDoorMapSM
namespace Go.Proofs.YtnfabgbidkddhaaGreatDoor
open Go.RowKit

/-- What a key is. -/
inductive Ask where
  | all | keyword | on | header | uid | modseq | not | or
  | time (k : Int) | counts (k more : Int) | says (k : Int) | head (n : ByteArray) | has (k : ByteArray)
  | un (a : Ask)
/-- How many terms it puts at most. -/
def Ask.cost : Ask → Nat
  | .on => 3
  | .un a => a.cost + 1
  | _ => 1
def Ask.plain : Ask → Prop
  | .not => False
  | .or => False
  | .un a => a.plain
  | _ => True

/-- The keys but those of flags. -/
def baseTab : List (ByteArray × Ask) := [
  (⟨#[97, 108, 108]⟩, .all),
  (⟨#[107, 101, 121, 119, 111, 114, 100]⟩, .keyword),
  (⟨#[117, 110, 107, 101, 121, 119, 111, 114, 100]⟩, .un .keyword),
  (⟨#[111, 110]⟩, .on),
  (⟨#[104, 101, 97, 100, 101, 114]⟩, .header),
  (⟨#[117, 105, 100]⟩, .uid),
  (⟨#[109, 111, 100, 115, 101, 113]⟩, .modseq),
  (⟨#[110, 111, 116]⟩, .not),
  (⟨#[111, 114]⟩, .or),
  (⟨#[98, 101, 102, 111, 114, 101]⟩, .time 7),
  (⟨#[115, 105, 110, 99, 101]⟩, .time 8),
  (⟨#[108, 97, 114, 103, 101, 114]⟩, .counts 9 1),
  (⟨#[115, 109, 97, 108, 108, 101, 114]⟩, .counts 10 0),
  (⟨#[98, 111, 100, 121]⟩, .says 13),
  (⟨#[116, 101, 120, 116]⟩, .says 11),
  (⟨#[115, 117, 98, 106, 101, 99, 116]⟩, .head ⟨#[83, 117, 98, 106, 101, 99, 116]⟩),
  (⟨#[102, 114, 111, 109]⟩, .head ⟨#[70, 114, 111, 109]⟩),
  (⟨#[116, 111]⟩, .head ⟨#[84, 111]⟩),
  (⟨#[99, 99]⟩, .head ⟨#[67, 99]⟩)]
/-- The flags' names. -/
def flagNames : List (List UInt8) := [[97, 110, 115, 119, 101, 114, 101, 100], [100, 101, 108, 101, 116, 101, 100], [100, 114, 97, 102, 116], [102, 108, 97, 103, 103, 101, 100], [115, 101, 101, 110]]
def flagRows (k : List UInt8) : List (ByteArray × Ask) := [(⟨k.toArray⟩, .has ⟨(36 :: k).toArray⟩), (⟨(117 :: 110 :: k).toArray⟩, .un (.has ⟨(36 :: k).toArray⟩))]
def askTab : List (ByteArray × Ask) := baseTab ++ flagNames.flatMap flagRows
def askOf (t : ByteArray) : Option Ask := getS askTab t

end Go.Proofs.YtnfabgbidkddhaaGreatDoor
