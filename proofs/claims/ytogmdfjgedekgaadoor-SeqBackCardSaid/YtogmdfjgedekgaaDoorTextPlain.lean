/-
  Plain laws of the text of numbers: the ranges that rising numbers make, the text of ranges. No condition.
-/
import Derived.Test.YtogmdfjgedekgaaDoorSeqPlain
import Derived.Test.YtogmdfjgedekgaaDoorSeqDigits
import Derived.Lib.JoinLaws
namespace Go.Proofs.YtogmdfjgedekgaaDoor
open Go.Lib

/-- One number more. -/
def tStep (s : List Rg × Int) (n : Int) : List Rg × Int :=
  if n ≤ s.2 then s else match s.1.getLast? with
    | some t => if t.2 = n - 1 then (s.1.dropLast ++ [(t.1, n)], n) else (s.1 ++ [(n, n)], n)
    | none => ([(n, n)], n)
def tRows (l : List Int) : List Rg := (l.foldl tStep ([], 0)).1

def rowT (r : Rg) : List UInt8 := digL r.1 ++ (if r.1 < r.2 then 58 :: digL r.2 else [])
def textL (l : List Int) : List UInt8 := join ((tRows l).map rowT) [44]

theorem tStep_skip {s : List Rg} {last n : Int} (h : n ≤ last) : tStep (s, last) n = (s, last) := if_pos h
theorem tStep_none {last n : Int} (h : ¬ n ≤ last) : tStep ([], last) n = ([(n, n)], n) := by
  unfold tStep
  rw [if_neg h]
  rfl
theorem tStep_join {s : List Rg} {t : Rg} {last n : Int} (h : ¬ n ≤ last) (ht : t.2 = n - 1) : tStep (s ++ [t], last) n = (s ++ [(t.1, n)], n) := by
  unfold tStep
  rw [if_neg h]
  simp [ht]
theorem tStep_push {s : List Rg} {t : Rg} {last n : Int} (h : ¬ n ≤ last) (ht : ¬ t.2 = n - 1) : tStep (s ++ [t], last) n = (s ++ [t] ++ [(n, n)], n) := by
  unfold tStep
  rw [if_neg h]
  simp [ht]

theorem join_two (a b : List UInt8) (l : List (List UInt8)) (sep : List UInt8) : join (a :: b :: l) sep = a ++ (sep ++ join (b :: l) sep) := by
  rw [join_cons, join_cons]
  simp [joinTail]
theorem join_snoc (l : List (List UInt8)) (x sep : List UInt8) : join (l ++ [x]) sep = if l = [] then x else join l sep ++ sep ++ x := by
  induction l with
  | nil => simp [join_one]
  | cons a l ih =>
    cases l with
    | nil => simp [join_two, join_one]
    | cons b l =>
      simp only [List.cons_append] at ih ⊢
      rw [join_two, ih, join_two]
      simp

theorem rowT_len (r : Rg) (h1 : r.1 ≤ 9223372036854775807) (h2 : r.2 ≤ 9223372036854775807) : (rowT r).length ≤ 43 := by
  unfold rowT
  have a := digL_le r.1 h1
  have b := digL_le r.2 h2
  rw [List.length_append]
  split
  · simp
    omega
  · simp
    omega

theorem join_len (l : List (List UInt8)) (h : ∀ x ∈ l, x.length ≤ 43) : (join l [44]).length ≤ 44 * l.length := by
  induction l with
  | nil => simp [join_nil]
  | cons a l ih =>
    have ha := h a List.mem_cons_self
    have ih := ih fun x hx => h x (List.mem_cons_of_mem _ hx)
    cases l with
    | nil =>
      rw [join_one]
      simp
      omega
    | cons b l =>
      rw [join_two]
      simp only [List.length_append, List.length_cons, List.length_nil] at ih ⊢
      omega

end Go.Proofs.YtogmdfjgedekgaaDoor
