/-
  Keywords put in one by one: what a sort made compact is, once more.
-/
import Derived.Test.YtgkfknbhkonfdaaGreatDoorKeysPlain1M
namespace Go.Proofs.YtgkfknbhkonfdaaGreatDoor
open Go.RowKit Go.Sort

def insB (x : List UInt8) : Texts → Texts
  | [] => [x]
  | y :: r => if y < x then y :: insB x r else if y = x then y :: r else x :: y :: r
def insAll (l : Texts) : Texts := l.foldl (fun acc x => insB x acc) []

theorem mem_insB (x : List UInt8) : ∀ (l : Texts) (z : List UInt8), z ∈ insB x l ↔ z = x ∨ z ∈ l
  | [], z => by simp [insB]
  | y :: r, z => by
    rw [insB]
    split
    · rw [List.mem_cons, mem_insB x r z, List.mem_cons]
      constructor
      · rintro (h | h | h)
        · exact .inr (.inl h)
        · exact .inl h
        · exact .inr (.inr h)
      · rintro (h | h | h)
        · exact .inr (.inl h)
        · exact .inl h
        · exact .inr (.inr h)
    · split
      · rename_i h
        subst h
        simp
      · simp
theorem pw_insB (x : List UInt8) : ∀ (l : Texts), l.Pairwise (· < ·) → (insB x l).Pairwise (· < ·)
  | [], _ => by simp [insB]
  | y :: r, h => by
    rw [List.pairwise_cons] at h
    rw [insB]
    split
    · rename_i hy
      rw [List.pairwise_cons]
      refine ⟨fun z hz => ?_, pw_insB x r h.2⟩
      rcases (mem_insB x r z).1 hz with e | e
      · subst e
        exact hy
      · exact h.1 z e
    · rename_i hy
      split
      · rw [List.pairwise_cons]
        exact h
      · rename_i hne
        have hxy : x < y := by
          rcases List.le_total x y with h1 | h1
          · exact Std.lt_of_le_of_ne h1 (fun e => hne e.symm)
          · exact absurd (Std.lt_of_le_of_ne h1 hne) hy
        rw [List.pairwise_cons]
        refine ⟨fun z hz => ?_, by rw [List.pairwise_cons]; exact h⟩
        rcases List.mem_cons.1 hz with e | e
        · subst e
          exact hxy
        · exact Std.lt_trans hxy (h.1 z e)
theorem insFold_ok : ∀ (l acc : Texts), acc.Pairwise (· < ·) → (l.foldl (fun acc x => insB x acc) acc).Pairwise (· < ·) ∧ ∀ z, z ∈ l.foldl (fun acc x => insB x acc) acc ↔ z ∈ l ∨ z ∈ acc
  | [], acc, h => by simp [h]
  | x :: l, acc, h => by
    obtain ⟨h1, h2⟩ := insFold_ok l (insB x acc) (pw_insB x acc h)
    refine ⟨h1, fun z => ?_⟩
    rw [List.foldl_cons, h2, mem_insB, List.mem_cons]
    constructor
    · rintro (h | h | h)
      · exact .inl (.inr h)
      · exact .inl (.inl h)
      · exact .inr h
    · rintro ((h | h) | h)
      · exact .inr (.inl h)
      · exact .inl h
      · exact .inr (.inr h)
theorem keysL_ins (l : Texts) : Lib.compact (sortB l) = insAll l := by
  obtain ⟨h1, h2⟩ := insFold_ok l [] (by simp)
  obtain ⟨h3, h4⟩ := keysL_ok l
  refine rise_unique _ _ h3 h1 fun x => ?_
  rw [h4]
  exact ((h2 x).trans (by simp)).symm
theorem keysF_ins (l : Texts) : keysF l = if l.any (fun s => !rightL s) = true then ([], 1) else if 16 < (insAll l).length then ([], 13) else (insAll l, 0) := by
  unfold keysF
  rw [keysL_ins]

end Go.Proofs.YtgkfknbhkonfdaaGreatDoor
