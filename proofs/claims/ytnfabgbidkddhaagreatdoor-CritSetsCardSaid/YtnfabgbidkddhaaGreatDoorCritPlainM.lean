/-
  What words ask for, as terms, plain: no program in sight.
-/
import Derived.Test.YtnfabgbidkddhaaGreatDoorGCA
import Derived.Test.YtnfabgbidkddhaaGreatDoorSeqInM
import Derived.Test.YtnfabgbidkddhaaGreatDoorSeqReadPM
import Derived.Test.YtnfabgbidkddhaaGreatDoorDayPlainM
import Derived.Test.YtnfabgbidkddhaaGreatDoorCritAskM
namespace Go.Proofs.YtnfabgbidkddhaaGreatDoor
open Go.RowKit

/-- A word: its kind, its text, its words. -/
inductive WT where
  | mk (kind : Int) (text : ByteArray) (kids : List WT)
def WT.kind : WT → Int | .mk k _ _ => k
def WT.text : WT → ByteArray | .mk _ t _ => t
def WT.kids : WT → List WT | .mk _ _ l => l
mutual
/-- How many words there are in a word, in a list. -/
def szW : WT → Nat | .mk _ _ l => 1 + szL l
def szL : List WT → Nat
  | [] => 0
  | t :: ts => szW t + szL ts
end
mutual
/-- No text is long. -/
def okW : WT → Prop | .mk _ t l => t.size ≤ 1100 ∧ okL l
def okL : List WT → Prop
  | [] => True
  | t :: ts => okW t ∧ okL ts
end

/-- A term of a filter. -/
structure Tm where
  kind : Int
  n : Int
  name : ByteArray
  text : ByteArray
  set : List Rg
  kids : List Int
abbrev Out := List Tm
def tmN (kind n : Int) : Tm := ⟨kind, n, .empty, .empty, [], []⟩
def tmT (kind : Int) (name text : ByteArray) : Tm := ⟨kind, 0, name, text, [], []⟩
def tmK (kind : Int) (kids : List Int) : Tm := ⟨kind, 0, .empty, .empty, [], kids⟩
def tmS (n : Int) (set : List Rg) : Tm := ⟨14, n, .empty, .empty, set, []⟩

/-- The mailbox, its numbers. -/
structure CEnv where
  box : Int
  uids : List Int
def CEnv.star (E : CEnv) : Int := E.uids.getLast?.getD 0

abbrev Res := Option (Int × List WT × Out × Bool)

def wordP : List WT → Option (ByteArray × List WT)
  | [] => none
  | .mk k t _ :: ws => if k = 3 then none else some (t, ws)
def numP (ws : List WT) : Option (Int × List WT) := match wordP ws with
  | none => none
  | some (s, r) => if (numberL s.data.toList).2 then some ((numberL s.data.toList).1, r) else none
def dayP (ws : List WT) : Option (Int × List WT) := match wordP ws with
  | none => none
  | some (s, r) => if (dayL s.data.toList).2 = 0 then some ((dayL s.data.toList).1, r) else none

/-- A term behind the others. -/
def putP (t : Tm) (ws : List WT) (out : Out) (mod : Bool) : Res := some (out.length, ws, out ++ [t], mod)
def notP : Res → Res
  | none => none
  | some (k, ws, out, mod) => putP (tmK 3 [k]) ws out mod
def keyB (s : ByteArray) : ByteArray := ⟨(keyOf (lowL s.data.toList)).1.toArray⟩

def stepA (E : CEnv) : Ask → List WT → Out → Bool → Res
  | .all, ws, out, mod => putP (tmK 1 []) ws out mod
  | .keyword, ws, out, mod => match wordP ws with
    | none => none
    | some (s, r) => if (keyOf (lowL s.data.toList)).2 then putP (tmT 6 .empty (keyB s)) r out mod else none
  | .on, ws, out, mod => match dayP ws with
    | none => none
    | some (n, r) => some (out.length + 2, r, out ++ [tmN 8 n] ++ [tmN 7 (n + 86400)] ++ [tmK 1 [out.length, out.length + 1]], mod)
  | .header, ws, out, mod => match wordP ws with
    | none => none
    | some (h, r) => match wordP r with
      | none => none
      | some (s, r2) => putP (tmT 12 h s) r2 out mod
  | .uid, ws, out, mod => match wordP ws with
    | none => none
    | some (s, r) => if (readL s.data.toList E.star).2 = 0 then putP (tmS E.box (readL s.data.toList E.star).1) r out mod else none
  | .modseq, ws, out, _ => match numP ws with
    | none => none
    | some (n, r) => putP (tmN 15 n) r out true
  | .time k, ws, out, mod => match dayP ws with
    | none => none
    | some (n, r) => putP (tmN k n) r out mod
  | .counts k m, ws, out, mod => match numP ws with
    | none => none
    | some (n, r) => putP (tmN k (n + m)) r out mod
  | .says k, ws, out, mod => match wordP ws with
    | none => none
    | some (s, r) => putP (tmT k .empty s) r out mod
  | .head n, ws, out, mod => match wordP ws with
    | none => none
    | some (s, r) => putP (tmT 12 n s) r out mod
  | .has k, ws, out, mod => putP (tmT 6 .empty k) ws out mod
  | .un a, ws, out, mod => notP (stepA E a ws out mod)
  | .not, _, _, _ => none
  | .or, _, _, _ => none

/-- The numbers at places. -/
def placesGo (set : List Rg) : Nat → List Int → List Rg
  | _, [] => []
  | i, u :: us => if inL set ((i : Int) + 1) = true ∧ 0 < u then (u, u) :: placesGo set (i + 1) us else placesGo set (i + 1) us
def placeP (E : CEnv) (s : ByteArray) (ws : List WT) (out : Out) (mod : Bool) : Res :=
  if (readL s.data.toList E.uids.length).2 = 0 then putP (tmS E.box (mergeR (placesGo (readL s.data.toList E.uids.length).1 0 E.uids))) ws out mod else none

/-- All keys, to the end. -/
def wholeP (f : List WT → Out → Bool → Res) : Nat → List WT → Out → Bool → List Int → Option (Int × Out × Bool)
  | _, [], out, mod, kids => if kids = [] then none else some (out.length, out ++ [tmK 1 kids], mod)
  | 0, _ :: _, _, _, _ => none
  | n + 1, t :: ts, out, mod, kids => match f (t :: ts) out mod with
    | none => none
    | some (k, ws, out', mod') => wholeP f n ws out' mod' (kids ++ [k])
def isPlace (t : ByteArray) : Bool := match t.data.toList with
  | [] => false
  | c :: _ => c == 42 || (decide (48 ≤ c) && decide (c ≤ 57))
def orP (f : List WT → Out → Bool → Res) (ws : List WT) (out : Out) (mod : Bool) : Res := match f ws out mod with
  | none => none
  | some (a, ws1, out1, mod1) => match f ws1 out1 mod1 with
    | none => none
    | some (b, ws2, out2, mod2) => putP (tmK 2 [a, b]) ws2 out2 mod2
/-- What a key asks, of those that ask by f for the ones behind it. -/
def askP (E : CEnv) (f : List WT → Out → Bool → Res) : Ask → List WT → Out → Bool → Res
  | .not, ws, out, mod => notP (f ws out mod)
  | .or, ws, out, mod => orP f ws out mod
  | a, ws, out, mod => stepA E a ws out mod
def listP (n : Nat) (f : List WT → Out → Bool → Res) (kids ws : List WT) (out : Out) (mod : Bool) : Res := match wholeP f n kids out mod [] with
  | none => none
  | some (k, out', mod') => some (k, ws, out', mod')
/-- The next key. -/
def keyP (E : CEnv) : Nat → List WT → Out → Bool → Res
  | 0, _, _, _ => none
  | _ + 1, [], _, _ => none
  | n + 1, .mk k t kids :: ws, out, mod =>
    if k = 3 then listP n (keyP E n) kids ws out mod
    else if k ≠ 1 then none
    else if isPlace t = true then placeP E t ws out mod
    else match askOf (lowS t) with
      | none => none
      | some a => askP E (keyP E n) a ws out mod
/-- The filter that words tell, whether it asks for clocks, or the number of an error. -/
def readP (E : CEnv) (ws : List WT) : Out × Bool × Int := match wholeP (keyP E (szL ws)) (szL ws) ws [] false [] with
  | none => ([], false, 3)
  | some (_, out, mod) => if 40 < out.length then ([], false, 13) else (out, mod, 0)

end Go.Proofs.YtnfabgbidkddhaaGreatDoor
