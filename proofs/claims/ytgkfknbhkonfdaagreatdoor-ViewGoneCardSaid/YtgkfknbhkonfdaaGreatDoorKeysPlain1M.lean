/-
  Keywords in plain words: what a sort made compact is.
-/
import Derived.Test.YtgkfknbhkonfdaaGreatDoorGB
namespace Go.Proofs.YtgkfknbhkonfdaaGreatDoor
open Go.RowKit Go.Sort

theorem sortB_sorted (l : Texts) : (sortB l).Pairwise (· ≤ ·) := by
  have := List.pairwise_mergeSort (le := fun x y : List UInt8 => decide (x ≤ y)) (by intro a b c; simp; exact List.le_trans) (by intro a b; simp; exact List.le_total a b) l
  unfold sortB
  simpa using this
theorem mem_sortB (l : Texts) (x : List UInt8) : x ∈ sortB l ↔ x ∈ l := by simp [sortB]

theorem sorted_at {d : Texts} (h : d.Pairwise (· ≤ ·)) (i j : Nat) (hij : i ≤ j) (hj : j < d.length) : d.toArray[i]! ≤ d.toArray[j]! := by
  rw [getElem!_pos _ i (by simp; omega), getElem!_pos _ j (by simpa using hj)]
  simp only [List.getElem_toArray]
  rcases Nat.lt_or_ge i j with h1 | h1
  · exact List.pairwise_iff_getElem.1 h i j (by omega) hj h1
  · obtain rfl : i = j := by omega
    exact List.le_refl _
theorem compactUpTo_ok {d : Texts} (h : d.Pairwise (· ≤ ·)) : ∀ m, m ≤ d.length → (Lib.compactUpTo d.toArray m).Pairwise (· < ·) ∧ ∀ x, x ∈ Lib.compactUpTo d.toArray m ↔ ∃ j, j < m ∧ d.toArray[j]! = x
  | 0, _ => by simp [Lib.compactUpTo]
  | m + 1, hm => by
    obtain ⟨h1, h2⟩ := compactUpTo_ok h m (by omega)
    rw [Lib.compactUpTo_succ]
    by_cases hk : Lib.keeps d.toArray m = true
    · rw [if_pos hk]
      refine ⟨?_, fun x => ?_⟩
      · rw [List.pairwise_append]
        refine ⟨h1, by simp, fun a ha b hb => ?_⟩
        simp only [List.mem_singleton] at hb
        subst hb
        obtain ⟨j, hj, rfl⟩ := (h2 a).1 ha
        have hne : d.toArray[m]! ≠ d.toArray[m - 1]! := by
          simp only [Lib.keeps, decide_eq_true_eq] at hk
          rcases hk with hk | hk
          · omega
          · exact hk
        exact Std.lt_of_le_of_lt (sorted_at h j (m - 1) (by omega) (by omega)) (Std.lt_of_le_of_ne (sorted_at h (m - 1) m (by omega) (by omega)) (fun e => hne e.symm))
      · rw [List.mem_append, h2, List.mem_singleton]
        constructor
        · rintro (⟨j, hj, he⟩ | he)
          · exact ⟨j, by omega, he⟩
          · exact ⟨m, by omega, he.symm⟩
        · rintro ⟨j, hj, he⟩
          by_cases hjm : j = m
          · subst hjm
            exact .inr he.symm
          · exact .inl ⟨j, by omega, he⟩
    · rw [if_neg hk, List.append_nil]
      refine ⟨h1, fun x => ?_⟩
      rw [h2]
      have hk2 : ¬ (m = 0 ∨ d.toArray[m]! ≠ d.toArray[m - 1]!) := by simpa [Lib.keeps] using hk
      constructor
      · rintro ⟨j, hj, he⟩
        exact ⟨j, by omega, he⟩
      · rintro ⟨j, hj, he⟩
        by_cases hjm : j = m
        · subst hjm
          refine ⟨j - 1, by omega, ?_⟩
          rw [← he]
          refine Decidable.byContradiction fun hne => hk2 (.inr fun e => hne e.symm)
        · exact ⟨j, by omega, he⟩

/-- Keywords rise, and are just those that were handed in. -/
theorem keysL_ok (l : Texts) : (Lib.compact (sortB l)).Pairwise (· < ·) ∧ ∀ x, x ∈ Lib.compact (sortB l) ↔ x ∈ l := by
  obtain ⟨h1, h2⟩ := compactUpTo_ok (sortB_sorted l) (sortB l).length (Nat.le_refl _)
  refine ⟨h1, fun x => ?_⟩
  unfold Lib.compact
  rw [h2, ← mem_sortB l x]
  constructor
  · rintro ⟨j, hj, rfl⟩
    rw [getElem!_pos _ j (by simpa using hj)]
    simp
  · intro hx
    obtain ⟨j, hj, he⟩ := List.getElem_of_mem hx
    exact ⟨j, hj, by rw [getElem!_pos _ j (by simpa using hj)]; simpa using he⟩
/-- Two lists that rise, of the same elements, are one. -/
theorem rise_unique : ∀ (a b : Texts), a.Pairwise (· < ·) → b.Pairwise (· < ·) → (∀ x, x ∈ a ↔ x ∈ b) → a = b
  | [], [], _, _, _ => rfl
  | [], y :: b, _, _, h => by have := (h y).2 (by simp); simp at this
  | x :: a, [], _, _, h => by have := (h x).1 (by simp); simp at this
  | x :: a, y :: b, ha, hb, h => by
    rw [List.pairwise_cons] at ha hb
    have hxy : x = y := by
      rcases List.mem_cons.1 ((h x).1 (by simp)) with e | e
      · exact e
      · rcases List.mem_cons.1 ((h y).2 (by simp)) with e2 | e2
        · exact e2.symm
        · exact absurd (Std.lt_trans (ha.1 y e2) (hb.1 x e)) (Std.lt_irrefl)
    subst hxy
    rw [rise_unique a b ha.2 hb.2 fun z => ?_]
    constructor
    · intro hz
      rcases List.mem_cons.1 ((h z).1 (List.mem_cons_of_mem _ hz)) with e | e
      · subst e
        exact absurd (ha.1 z hz) Std.lt_irrefl
      · exact e
    · intro hz
      rcases List.mem_cons.1 ((h z).2 (List.mem_cons_of_mem _ hz)) with e | e
      · subst e
        exact absurd (hb.1 z hz) Std.lt_irrefl
      · exact e
theorem keysL_again (l : Texts) (h : l.Pairwise (· < ·)) : Lib.compact (sortB l) = l :=
  rise_unique _ _ (keysL_ok l).1 h (keysL_ok l).2

end Go.Proofs.YtgkfknbhkonfdaaGreatDoor
