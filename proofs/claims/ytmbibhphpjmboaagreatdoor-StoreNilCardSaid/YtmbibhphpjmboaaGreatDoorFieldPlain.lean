/-
  Headers in plain words: lines, gathered lines, fields, the first of a name. No program in sight.
-/
import Derived.Test.YtmbibhphpjmboaaGreatDoorPlain
import Derived.Lib.SlTrimSet
import Derived.Lib.IndexMore
namespace Go.Proofs.YtmbibhphpjmboaaGreatDoor
open Go.Lib

/-- The lines of what is left of a text, and the places behind them. -/
def linesF : Nat → List UInt8 → Nat → List (List UInt8 × Nat)
  | 0, _, _ => []
  | f + 1, s, p =>
    if s = [] then []
    else if Lib.indexByte s 10 < 0 then [(s, p + s.length)]
    else (Lib.trimSuffix (s.take (Lib.indexByte s 10).toNat) [13], p + ((Lib.indexByte s 10).toNat + 1)) :: linesF f (s.drop ((Lib.indexByte s 10).toNat + 1)) (p + ((Lib.indexByte s 10).toNat + 1))
def blankB (t : List UInt8) : Bool := decide (t[0]? = some 32) || decide (t[0]? = some 9)
/-- A line more: it goes on with the last one, or is another. -/
def addLine (g : List (List UInt8)) (t : List UInt8) : List (List UInt8) := if g ≠ [] ∧ blankB t = true then g.dropLast ++ [(g.getLast?.getD []) ++ t] else g ++ [t]
def gatherF : List (List UInt8 × Nat) → List (List UInt8) → Nat → List (List UInt8) × Nat
  | [], g, b => (g, b)
  | (t, p) :: r, g, b => if t = [] then (g, p) else gatherF r (addLine g t) b
/-- The field that a text is; false: it is none. -/
def oneF (s : List UInt8) : (List UInt8 × List UInt8) × Bool :=
  (((Lib.cut s [58]).1, Lib.trimS (Lib.cut s [58]).2.1 [32, 9]), (Lib.cut s [58]).2.2 && ((Lib.cut s [58]).1.all (fun b => decide (33 ≤ b.toNat) && decide (b.toNat ≤ 126)) && !decide ((Lib.cut s [58]).1 = [])))
def fieldsG (g : List (List UInt8)) : List (List UInt8 × List UInt8) := g.filterMap fun s => if (oneF s).2 then some (oneF s).1 else none
def fieldsF : List (List UInt8) → List (List UInt8 × List UInt8)
  | [] => []
  | s :: r => fieldsG (if blankB s = true then r else s :: r)
def splitF (s : List UInt8) : List (List UInt8 × List UInt8) × Nat := (fieldsF (gatherF (linesF s.length s 0) [] s.length).1, (gatherF (linesF s.length s 0) [] s.length).2)
def firstF (l : List (List UInt8 × List UInt8)) (name : List UInt8) : List UInt8 × Bool := match l.find? (fun f => decide (lowL f.1 = lowL name)) with
  | some f => (f.2, true)
  | none => ([], false)
def headF (t name : List UInt8) : List UInt8 := (firstF (splitF t).1 name).1

theorem addLine_ne {g : List (List UInt8)} {t : List UInt8} (hg : ∀ x ∈ g, x ≠ []) (ht : t ≠ []) : ∀ x ∈ addLine g t, x ≠ [] := by
  intro x hx
  unfold addLine at hx
  split at hx
  · rename_i h
    rw [List.mem_append, List.mem_singleton] at hx
    rcases hx with hx | rfl
    · exact hg x (List.dropLast_subset g hx)
    · simp [ht]
  · rw [List.mem_append, List.mem_singleton] at hx
    rcases hx with hx | rfl
    · exact hg x hx
    · exact ht
def sumL (g : List (List UInt8)) : Nat := (g.map List.length).sum
theorem sumL_append (a b : List (List UInt8)) : sumL (a ++ b) = sumL a + sumL b := by simp [sumL]
theorem addLine_sum (g : List (List UInt8)) (t : List UInt8) : sumL (addLine g t) = sumL g + t.length := by
  unfold addLine
  split
  · rename_i h
    obtain ⟨g', z, rfl⟩ : ∃ g' z, g = g' ++ [z] := ⟨g.dropLast, g.getLast h.1, (List.dropLast_concat_getLast _).symm⟩
    simp [sumL]
    omega
  · simp [sumL]
theorem addLine_length (g : List (List UInt8)) (t : List UInt8) : (addLine g t).length ≤ g.length + 1 := by
  unfold addLine
  split
  · simp
  · simp

end Go.Proofs.YtmbibhphpjmboaaGreatDoor
