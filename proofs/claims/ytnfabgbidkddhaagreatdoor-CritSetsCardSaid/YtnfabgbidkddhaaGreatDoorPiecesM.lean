/-
  Plain laws of the pieces of a text between the instances of one byte: the library's split is the plain recursion. No condition.
-/
import Derived.Lib.SplitLaws
import Derived.Lib.Split
namespace Go.Proofs.YtnfabgbidkddhaaGreatDoor
open Go.Lib

/-- The pieces of a text between the instances of a byte. -/
def piecesC (c : UInt8) : List UInt8 → List (List UInt8)
  | [] => [[]]
  | b :: r => if b = c then [] :: piecesC c r else match piecesC c r with
    | [] => [[b]]
    | p :: ps => (b :: p) :: ps

theorem piecesC_ne (c : UInt8) : ∀ l, piecesC c l ≠ []
  | [] => by simp [piecesC]
  | b :: r => by
    unfold piecesC
    split
    · simp
    · split <;> simp

theorem index_one_cons (b c : UInt8) (l : List UInt8) : index (b :: l) [c] = if b = c then 0 else if index l [c] = -1 then -1 else index l [c] + 1 := by
  show (if List.isPrefixOf [c] (b :: l) then 0 else if index l [c] == -1 then -1 else index l [c] + 1) = _
  by_cases h : b = c
  · subst h
    simp
  · rw [if_neg h, if_neg (by simp; exact fun e => h e.symm)]
    simp

theorem splitK_pieces (c : UInt8) : ∀ s : List UInt8, splitK [c] 0 (count s [c]) s = piecesC c s
  | [] => by
    rw [count_one]
    rfl
  | b :: r => by
    have ih := splitK_pieces c r
    unfold piecesC
    by_cases h : b = c
    · subst h
      rw [if_pos rfl, count_cons_eq, Nat.add_comm]
      unfold splitK
      have e : index (b :: r) [b] = 0 := by rw [index_one_cons, if_pos rfl]
      rw [e]
      simp only [show ((0 : Int) == -1) = false from rfl, Bool.false_eq_true, if_false]
      rw [show (0 : Int).toNat + [b].length = 1 from rfl, List.drop_one, List.tail_cons, ih]
      rfl
    · rw [if_neg h, count_cons_ne b c r h]
      cases hk : count r [c] with
      | zero =>
        rw [hk] at ih
        rw [← ih]
        rfl
      | succ k =>
        rw [hk] at ih
        have hm : index r [c] ≠ -1 := fun e => by have := count_miss e; omega
        obtain ⟨i, hi⟩ : ∃ i : Nat, index r [c] = i := ⟨(index r [c]).toNat, by
          have := index_ge r [c]
          omega⟩
        have e : index (b :: r) [c] = ((i + 1 : Nat) : Int) := by rw [index_one_cons, if_neg h, if_neg hm, hi]; omega
        unfold splitK at ih ⊢
        rw [e, hi] at *
        have f1 : (((i : Nat) : Int) == -1) = false := by rw [beq_eq_false_iff_ne]; omega
        have f2 : (((i + 1 : Nat) : Int) == -1) = false := by rw [beq_eq_false_iff_ne]; omega
        simp only [f1, f2, Bool.false_eq_true, if_false, Int.toNat_natCast, List.length_singleton, Nat.add_zero] at ih ⊢
        rw [← ih]
        simp

/-- A run without the byte ahead of the rest. -/
theorem piecesC_run (c : UInt8) (p l : List UInt8) (h : ∀ b ∈ p, b ≠ c) : piecesC c (p ++ l) = match piecesC c l with
    | [] => [p]
    | q :: ps => (p ++ q) :: ps := by
  induction p with
  | nil => cases hq : piecesC c l with
    | nil => exact absurd hq (piecesC_ne c l)
    | cons q ps => simp [hq]
  | cons b p ih =>
    have ih := ih fun x hx => h x (List.mem_cons_of_mem _ hx)
    rw [List.cons_append]
    show piecesC c (b :: (p ++ l)) = _
    rw [piecesC, if_neg (h b List.mem_cons_self), ih]
    cases hq : piecesC c l with
    | nil => exact absurd hq (piecesC_ne c l)
    | cons q ps => rfl
theorem piecesC_end (c : UInt8) (p : List UInt8) (h : ∀ b ∈ p, b ≠ c) : piecesC c p = [p] := by
  have := piecesC_run c p [] h
  rw [List.append_nil] at this
  rw [this]
  simp [piecesC]
theorem piecesC_cut (c : UInt8) (p l : List UInt8) (h : ∀ b ∈ p, b ≠ c) : piecesC c (p ++ c :: l) = p :: piecesC c l := by
  rw [piecesC_run c p (c :: l) h]
  have : piecesC c (c :: l) = [] :: piecesC c l := by rw [piecesC, if_pos rfl]
  rw [this]
  simp

theorem piecesC_size (c : UInt8) : ∀ l, ∀ p ∈ piecesC c l, p.length ≤ l.length
  | [], p, h => by simp [piecesC] at h; simp [h]
  | b :: r, p, h => by
    have ih := piecesC_size c r
    unfold piecesC at h
    split at h
    · rcases List.mem_cons.1 h with rfl | h
      · simp
      · have := ih p h
        simp; omega
    · split at h
      · simp at h; simp [h]
      · rename_i q ps hq
        rcases List.mem_cons.1 h with rfl | h
        · have := ih q (by rw [hq]; exact List.mem_cons_self)
          simp; omega
        · have := ih p (by rw [hq]; exact List.mem_cons_of_mem _ h)
          simp; omega
theorem piecesC_count (c : UInt8) : ∀ l, (piecesC c l).length ≤ l.length + 1
  | [] => by simp [piecesC]
  | b :: r => by
    have ih := piecesC_count c r
    unfold piecesC
    split
    · simp; omega
    · split
      · simp
      · rename_i q ps hq
        rw [hq] at ih
        simp at ih ⊢; omega

/-- What the library's split makes. -/
theorem splitB_pieces (c : UInt8) (s : ByteArray) : (splitB ⟨#[c]⟩ 0 (countB s ⟨#[c]⟩) s).map (·.data.toList) = piecesC c s.data.toList := by
  rw [splitB_data, ← splitK_pieces]

end Go.Proofs.YtnfabgbidkddhaaGreatDoor
