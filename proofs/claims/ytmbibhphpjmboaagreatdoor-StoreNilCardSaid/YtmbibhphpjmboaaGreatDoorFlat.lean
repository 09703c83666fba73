/-
  Elements of k cells each laid in a row, whatever they are: the general words of a list in memory.
-/
import Derived.Test.YtmbibhphpjmboaaGreatDoorMem
namespace Go.Proofs.YtmbibhphpjmboaaGreatDoor
open Go.RowKit

section
variable {α : Type} {k : Nat} {enc : α → List Value}

def flatG (enc : α → List Value) (l : List α) : List Value := l.flatMap enc

theorem flatG_nil (enc : α → List Value) : flatG enc [] = [] := rfl
theorem flatG_cons (x : α) (l : List α) : flatG enc (x :: l) = enc x ++ flatG enc l := by simp [flatG]
theorem flatG_append (a b : List α) : flatG enc (a ++ b) = flatG enc a ++ flatG enc b := by simp [flatG]
theorem flatG_snoc (a : List α) (x : α) : flatG enc (a ++ [x]) = flatG enc a ++ enc x := by simp [flatG]
theorem flatG_length (he : ∀ x, (enc x).length = k) : ∀ l : List α, (flatG enc l).length = l.length * k
  | [] => by simp [flatG]
  | x :: l => by
    rw [flatG_cons, List.length_append, flatG_length he l, List.length_cons, he, Nat.add_mul, Nat.one_mul, Nat.add_comm]
theorem flatG_get (he : ∀ x, (enc x).length = k) : ∀ (l : List α) (i j : Nat) (hi : i < l.length), j < k → (flatG enc l)[i * k + j]? = (enc l[i])[j]?
  | x :: l, 0, j, _, hj => by
    rw [flatG_cons, Nat.zero_mul, Nat.zero_add, List.getElem?_append_left (by rw [he]; exact hj)]
    rfl
  | x :: l, i + 1, j, hi, hj => by
    rw [flatG_cons, List.getElem?_append_right (by rw [he, Nat.add_mul]; omega)]
    have : (i + 1) * k + j - (enc x).length = i * k + j := by rw [he, Nat.add_mul]; omega
    rw [this, flatG_get he l i j (by simpa using hi) hj]
    rfl
theorem flatG_drop (he : ∀ x, (enc x).length = k) (l : List α) (i : Nat) : (flatG enc l).drop (i * k) = flatG enc (l.drop i) := by
  induction i generalizing l with
  | zero => simp
  | succ i ih =>
    cases l with
    | nil => simp [flatG]
    | cons x l =>
      rw [flatG_cons, List.drop_succ_cons, ← ih l, show (i + 1) * k = (enc x).length + i * k from by rw [he, Nat.add_mul]; omega, List.drop_append, Nat.add_sub_cancel_left, List.drop_of_length_le (Nat.le_add_right _ _), List.nil_append]
theorem flatG_take (he : ∀ x, (enc x).length = k) (l : List α) (i : Nat) : (flatG enc l).take (i * k) = flatG enc (l.take i) := by
  induction i generalizing l with
  | zero => simp [flatG]
  | succ i ih =>
    cases l with
    | nil => simp [flatG]
    | cons x l =>
      rw [flatG_cons, List.take_succ_cons, flatG_cons, ← ih l, show (i + 1) * k = (enc x).length + i * k from by rw [he, Nat.add_mul]; omega, List.take_append, Nat.add_sub_cancel_left, List.take_of_length_le (Nat.le_add_right _ _)]
theorem flatG_one (h1 : ∀ x, ∀ u ∈ enc x, u.oneCell' = true) (l : List α) : ∀ u ∈ flatG enc l, u.oneCell' = true := by
  intro u hu
  obtain ⟨x, _, hx⟩ := List.mem_flatMap.1 hu
  exact h1 x u hx
/-- One cell of one element stored: the element is another one. -/
theorem flatG_set (he : ∀ x, (enc x).length = k) : ∀ (l : List α) (i j : Nat) (hi : i < l.length), j < k → ∀ (u : Value) (y : α), enc y = (enc l[i]).set j u → (flatG enc l).set (i * k + j) u = flatG enc (l.set i y)
  | x :: l, 0, j, _, hj, u, y, hy => by
    rw [flatG_cons, Nat.zero_mul, Nat.zero_add, List.set_append_left _ _ (by rw [he]; exact hj), List.set_cons_zero, flatG_cons, hy]
    rfl
  | x :: l, i + 1, j, hi, hj, u, y, hy => by
    rw [flatG_cons, List.set_append_right _ _ (by rw [he, Nat.add_mul]; omega), List.set_cons_succ, flatG_cons]
    have : (i + 1) * k + j - (enc x).length = i * k + j := by rw [he, Nat.add_mul]; omega
    rw [this, flatG_set he l i j (by simpa using hi) hj u y hy]
end

end Go.Proofs.YtmbibhphpjmboaaGreatDoor
