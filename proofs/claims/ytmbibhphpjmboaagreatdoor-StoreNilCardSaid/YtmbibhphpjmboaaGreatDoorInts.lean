/-
  Slices of numbers of the call's own: cloned, sorted, made compact; what that gives.
-/
import Derived.Test.YtmbibhphpjmboaaGreatDoorStrs
import Derived.Test.YtmbibhphpjmboaaGreatDoorStoreFit
namespace Go.Proofs.YtmbibhphpjmboaaGreatDoor
open Go.RowKit Go.Sort
attribute [local go_sem ↓] Go.wp_at_zero Go.wp_at_succ

abbrev encI : Int → Value := Value.int .i64

/-! ### The plain law -/
def sortI (l : List Int) : List Int := l.mergeSort fun x y => decide (x ≤ y)
theorem sortI_length (l : List Int) : (sortI l).length = l.length := by simp [sortI]
theorem sortI_sorted (l : List Int) : (sortI l).Pairwise (· ≤ ·) := by
  have := List.pairwise_mergeSort (le := fun x y : Int => decide (x ≤ y)) (by intro a b c; simp; exact Int.le_trans) (by intro a b; simp; exact Int.le_total a b) l
  unfold sortI
  simpa using this
theorem mem_sortI (l : List Int) (x : Int) : x ∈ sortI l ↔ x ∈ l := by simp [sortI]
theorem sortedI_at {d : List Int} (h : d.Pairwise (· ≤ ·)) (i j : Nat) (hij : i ≤ j) (hj : j < d.length) : d.toArray[i]! ≤ d.toArray[j]! := by
  rw [getElem!_pos _ i (by simp; omega), getElem!_pos _ j (by simpa using hj)]
  simp only [List.getElem_toArray]
  rcases Nat.lt_or_ge i j with h1 | h1
  · exact List.pairwise_iff_getElem.1 h i j (by omega) hj h1
  · obtain rfl : i = j := by omega
    exact Int.le_refl _
theorem compactI_ok {d : List Int} (h : d.Pairwise (· ≤ ·)) : ∀ m, m ≤ d.length → (Lib.compactUpTo d.toArray m).Pairwise (· < ·) ∧ ∀ x, x ∈ Lib.compactUpTo d.toArray m ↔ ∃ j, j < m ∧ d.toArray[j]! = x
  | 0, _ => by simp [Lib.compactUpTo]
  | m + 1, hm => by
    obtain ⟨h1, h2⟩ := compactI_ok h m (by omega)
    rw [Lib.compactUpTo_succ]
    by_cases hk : Lib.keeps d.toArray m = true
    · rw [if_pos hk]
      refine ⟨?_, fun x => ?_⟩
      · rw [List.pairwise_append]
        refine ⟨h1, by simp, fun a ha b hb => ?_⟩
        simp only [List.mem_singleton] at hb
        subst hb
        obtain ⟨j, hj, rfl⟩ := (h2 a).1 ha
        have hne : d.toArray[m]! ≠ d.toArray[m - 1]! := by
          simp only [Lib.keeps, decide_eq_true_eq] at hk
          rcases hk with hk | hk
          · omega
          · exact hk
        have a1 := sortedI_at h j (m - 1) (by omega) (by omega)
        have a2 := sortedI_at h (m - 1) m (by omega) (by omega)
        omega
      · rw [List.mem_append, h2, List.mem_singleton]
        constructor
        · rintro (⟨j, hj, he⟩ | he)
          · exact ⟨j, by omega, he⟩
          · exact ⟨m, by omega, he.symm⟩
        · rintro ⟨j, hj, he⟩
          by_cases hjm : j = m
          · subst hjm
            exact .inr he.symm
          · exact .inl ⟨j, by omega, he⟩
    · rw [if_neg hk, List.append_nil]
      refine ⟨h1, fun x => ?_⟩
      rw [h2]
      have hk2 : ¬ (m = 0 ∨ d.toArray[m]! ≠ d.toArray[m - 1]!) := by simpa [Lib.keeps] using hk
      constructor
      · rintro ⟨j, hj, he⟩
        exact ⟨j, by omega, he⟩
      · rintro ⟨j, hj, he⟩
        by_cases hjm : j = m
        · subst hjm
          refine ⟨j - 1, by omega, ?_⟩
          rw [← he]
          refine Decidable.byContradiction fun hne => hk2 (.inr fun e => hne e.symm)
        · exact ⟨j, by omega, he⟩
/-- What a sort made compact is: rising numbers. -/
theorem compact_sortI (l : List Int) : Lib.compact (sortI l) = rise l := by
  obtain ⟨h1, h2⟩ := compactI_ok (sortI_sorted l) (sortI l).length (Nat.le_refl _)
  refine rising_unique h1 (rise_sorted l) fun x => ?_
  rw [mem_rise, ← mem_sortI l x]
  unfold Lib.compact
  rw [h2]
  constructor
  · rintro ⟨j, hj, rfl⟩
    rw [getElem!_pos _ j (by simpa using hj)]
    simp
  · intro hx
    obtain ⟨j, hj, he⟩ := List.getElem_of_mem hx
    refine ⟨j, hj, ?_⟩
    rw [getElem!_pos _ j (by simpa using hj)]
    simpa using he

/-! ### In memory -/
section
variable {w w' : World} {e : TypeId} {b off n cap : Nat} {h : Option Nat} {xs : List Value}

theorem grow_chgI (w : World) (q : Nat) (d : Array Int) (b off : Nat) (os : Array Obj) : Chg [b] w (grow (putRow encI (Sort.ahead w q) b off d) os) := by
  refine ⟨rfl, rfl, rfl, by simp, fun k hk hne => ?_⟩
  rw [heap_grow_old _ _ (by simpa using hk)]
  have : b ≠ k := fun e => hne (by simp [e])
  simp [putRow, mapBlock, Sort.ahead, Array.getElem?_modify, this]
theorem grow_blkI {cur : Array Value} (hB : Blk w b e cur) (q : Nat) (d : Array Int) (os : Array Obj) : Blk (grow (putRow encI (Sort.ahead w q) b off d) os) b e (putCells encI off d cur) := by
  have hlt := hB.lt
  unfold Blk at hB ⊢
  rw [heap_grow_old _ _ (by simpa using hlt)]
  simp [putRow, mapBlock, Sort.ahead, Array.getElem?_modify, hB]
  rfl
theorem putCells_atI (cur : Array Value) (d : Array Int) (h : off + d.size ≤ cur.size) : ((putCells encI off d cur).toList.drop off).take d.size = d.toList.map encI := by
  apply List.ext_getElem?
  intro k
  rw [List.getElem?_take]
  by_cases hk : k < d.size
  · rw [if_pos hk, List.getElem?_drop, List.getElem?_map]
    simp only [putCells, Array.getElem?_toList, Array.getElem?_mapIdx]
    rw [Array.getElem?_eq_getElem (show off + k < cur.size by omega), Option.map_some, if_pos ⟨by omega, by omega⟩, Nat.add_sub_cancel_left]
    simp [hk]
  · rw [if_neg hk, List.getElem?_eq_none]
    simp
    omega
theorem Sl.putRowI (hs : Sl w e 1 (.slice (some ⟨b, off, none⟩) n cap) h n xs) (q : Nat) (d : Array Int) (hd : d.size = n) (os : Array Obj) :
    Sl (grow (Sort.putRow encI (Sort.ahead w q) b off d) os) e 1 (.slice (some ⟨b, off, none⟩) n cap) h n (d.toList.map encI) := by
  refine ⟨by simp [hd], ?_⟩
  rcases hs.2 with ⟨_, hv, _⟩ | ⟨b', off', cap', cur, hh, hv, hB, hnc, hcm, hcs, ht⟩
  · cases hv
  · simp only [Value.slice.injEq, Option.some.injEq, Addr.mk.injEq, and_true, true_and] at hv
    obtain ⟨⟨rfl, rfl⟩, rfl⟩ := hv
    refine .inr ⟨b, off, cap, _, hh, rfl, grow_blkI hB q d os, hnc, hcm, by simpa [putCells] using hcs, ?_⟩
    rw [Nat.mul_one, ← hd]
    exact putCells_atI cur d (by omega)
theorem Sl.holdsI {ss : List Int} (hs : Sl w e 1 (.slice (some ⟨b, off, none⟩) n cap) h n (ss.map encI)) : Holds encI w b off ss.toArray := by
  have hn : ss.length = n := by have := hs.1; simpa using this
  intro j hj
  have hj' : j < ss.length := by simpa using hj
  obtain ⟨b', off', cap', hh, hv, _, _, _, hat⟩ := hs.at_ (by omega)
  simp only [Value.slice.injEq, Option.some.injEq, Addr.mk.injEq, and_true, true_and] at hv
  obtain ⟨⟨rfl, rfl⟩, rfl⟩ := hv
  obtain ⟨h1, h2⟩ := hat j (by omega)
  refine ⟨?_, h2⟩
  rw [h1]
  simp [hj']
end

theorem encI_one (l : List Int) : ∀ u ∈ l.map encI, u.oneCell' = true := by
  intro u hu
  obtain ⟨x, _, rfl⟩ := List.mem_map.1 hu
  rfl

set_option maxHeartbeats 400000 in
theorem sortI_any (w : World) (v : Value) (h : Option Nat) (n : Nat) (l : List Int) (hs : Sl w 3 1 v h n (l.map encI)) (hn : n ≤ 1099511627776) :
    Calls Tryz.prog 114 #[v] w fun e w' => e = .returned (.tuple #[]) ∧ Sl w' 3 1 v h n ((sortI l).map encI) ∧ Chg h.toList w w' := by
  have hl : l.length = n := by have := hs.1; simpa using this
  rcases hs.2 with ⟨rfl, rfl, rfl⟩ | ⟨b, off, cap, cur, rfl, rfl, hB, hnc, hcm, hcs, ht⟩
  · obtain rfl : l = [] := List.eq_nil_of_length_eq_zero hl
    refine (Tryz.slices_Sort_int_none none 0 w).mono ?_
    rintro e w' ⟨rfl, rfl⟩
    exact ⟨rfl, by simpa [sortI] using hs, Chg.refl _ _⟩
  · have hc := Tryz.slices_Sort_int b off cap l w hs.holdsI hB.lt (by omega)
    rw [hl] at hc
    refine hc.mono ?_
    rintro e w' ⟨rfl, q, os, rfl⟩
    refine ⟨rfl, ?_, grow_chgI _ _ _ _ _ _⟩
    have h2 := hs.putRowI q (sortI l).toArray (by simp [sortI_length, hl]) os
    exact h2

set_option maxHeartbeats 400000 in
theorem compactI_any (w : World) (v : Value) (h : Option Nat) (n : Nat) (l : List Int) (hs : Sl w 3 1 v h n (l.map encI)) (hn : n ≤ 1099511627776) :
    Calls Tryz.prog 115 #[v] w fun e w' => ∃ v', e = .returned v' ∧ Sl w' 3 1 v' h (Lib.compact l).length ((Lib.compact l).map encI) ∧ Chg h.toList w w' := by
  have hl : l.length = n := by have := hs.1; simpa using this
  rcases hs.2 with ⟨rfl, rfl, rfl⟩ | ⟨b, off, cap, cur, rfl, rfl, hB, hnc, hcm, hcs, ht⟩
  · obtain rfl : l = [] := List.eq_nil_of_length_eq_zero hl
    refine (Tryz.slices_Compact_int_empty none 0 w).mono ?_
    rintro e w' ⟨rfl, rfl⟩
    exact ⟨_, rfl, hs, Chg.refl _ _⟩
  · have hc := Tryz.slices_Compact_int b off cap l w hs.holdsI (by omega) (by omega)
    rw [hl] at hc
    have hle := Lib.compact_length_le l
    refine hc.mono ?_
    rintro e w' ⟨rfl, q, rfl⟩
    have h2 := hs.putRowI q (Lib.compact l ++ List.replicate (n - (Lib.compact l).length) 0).toArray (by simp; omega) #[]
    have h3 := grow_chgI w q (Lib.compact l ++ List.replicate (n - (Lib.compact l).length) 0).toArray b off #[]
    rw [grow_none] at h2 h3
    refine ⟨_, rfl, ?_, h3⟩
    have h4 := h2.shrink (Lib.compact l).length (by omega)
    have h5 : ((Lib.compact l ++ List.replicate (n - (Lib.compact l).length) 0).toArray.toList.map encI).take ((Lib.compact l).length * 1) = (Lib.compact l).map encI := by
      simp only [List.map_append, Nat.mul_one]
      rw [List.take_append_of_le_length (by simp), List.take_of_length_le (by simp)]
    rw [h5] at h4
    exact h4

theorem cloneI_any (w : World) (v : Value) (l : List Int) (S : List Nat) (hr : RdS w S 1 v l.length (l.map encI)) (hn : l.length ≤ 1099511627776) :
    Calls Tryz.prog 82 #[v] w fun e w' => ∃ v' h', e = .returned v' ∧ Sl w' 3 1 v' h' l.length (l.map encI) ∧ Below w.heap.size w w' ∧ ∀ b, h' = some b → w.heap.size ≤ b := by
  rcases hr.2 with ⟨rfl, h0⟩ | ⟨a, cap, rfl, hnc, hcm, hat⟩
  · obtain rfl : l = [] := List.eq_nil_of_length_eq_zero h0
    refine (Tryz.slices_Clone_int_nil 0 0 w).mono ?_
    rintro e w' ⟨rfl, rfl⟩
    exact ⟨_, none, rfl, Sl.nil _ _ _, Below.refl _ _, fun b hb => by cases hb⟩
  · rcases Nat.eq_zero_or_pos l.length with h0 | hpos
    · obtain rfl : l = [] := List.eq_nil_of_length_eq_zero h0
      refine (Tryz.slices_Clone_int_zero a cap w).mono ?_
      rintro e w' ⟨v', rfl, hown, _, hb⟩
      exact ⟨v', v'.ownBlock, rfl, Sl.of_own hown, hb, fun b hb => (hown.lt b hb).1⟩
    · obtain ⟨b, off, cap', hv, _, _, hlt, _, hc⟩ := hr.at_ hpos
      rw [hv]
      refine (Tryz.slices_Clone_int b off l.length cap' l w (Nat.le_refl _) (by omega) (fun j hj => ?_)).mono ?_
      · rw [hc j (by omega)]
        simp [List.getD, hj]
      · rintro e w' ⟨v', rfl, hown, _, hb⟩
        rw [List.take_length] at hown
        exact ⟨v', v'.ownBlock, rfl, Sl.of_own hown, hb, fun b hb => (hown.lt b hb).1⟩

end Go.Proofs.YtmbibhphpjmboaaGreatDoor
