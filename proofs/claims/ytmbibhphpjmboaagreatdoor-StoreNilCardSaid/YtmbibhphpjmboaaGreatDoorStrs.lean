/-
  Slices of strings of the call's own: cloned, sorted, made compact.
-/
import Derived.Test.YtmbibhphpjmboaaGreatDoorLogClone
import Derived.Test.YtmbibhphpjmboaaGreatDoorShelf
import Derived.Sort.OwnSorted
import Derived.Lib.RowBridge
namespace Go.Proofs.YtmbibhphpjmboaaGreatDoor
open Go.RowKit Go.Sort
attribute [local go_sem ↓] Go.wp_at_zero Go.wp_at_succ

theorem Try.infoString : (Tryz.prog.info? 9).map (fun i => (i.zero, i.size, i.bytes)) = some (some (.string ⟨#[]⟩), 1, 16) := by kernel_rfl

section
variable {w w' : World} {e : TypeId} {b off n cap : Nat} {h : Option Nat} {xs : List Value}

theorem grow_chg (w : World) (q : Nat) (d : Array (List UInt8)) (b off : Nat) (os : Array Obj) : Chg [b] w (grow (putRow encStr (Sort.ahead w q) b off d) os) := by
  refine ⟨rfl, rfl, rfl, by simp, fun k hk hne => ?_⟩
  rw [heap_grow_old _ _ (by simpa using hk)]
  have : b ≠ k := fun e => hne (by simp [e])
  simp [putRow, mapBlock, Sort.ahead, Array.getElem?_modify, this]
theorem grow_blk {cur : Array Value} (hB : Blk w b e cur) (q : Nat) (d : Array (List UInt8)) (os : Array Obj) : Blk (grow (putRow encStr (Sort.ahead w q) b off d) os) b e (putCells encStr off d cur) := by
  have hlt := hB.lt
  unfold Blk at hB ⊢
  rw [heap_grow_old _ _ (by simpa using hlt)]
  simp [putRow, mapBlock, Sort.ahead, Array.getElem?_modify, hB]
  rfl
theorem putCells_at (cur : Array Value) (d : Array (List UInt8)) (h : off + d.size ≤ cur.size) : ((putCells encStr off d cur).toList.drop off).take d.size = d.toList.map encStr := by
  apply List.ext_getElem?
  intro k
  rw [List.getElem?_take]
  by_cases hk : k < d.size
  · rw [if_pos hk, List.getElem?_drop, List.getElem?_map]
    simp only [putCells, Array.getElem?_toList, Array.getElem?_mapIdx]
    rw [Array.getElem?_eq_getElem (show off + k < cur.size by omega), Option.map_some, if_pos ⟨by omega, by omega⟩, Nat.add_sub_cancel_left]
    simp [hk]
  · rw [if_neg hk, List.getElem?_eq_none]
    simp
    omega
theorem Sl.putRow (hs : Sl w e 1 (.slice (some ⟨b, off, none⟩) n cap) h n xs) (q : Nat) (d : Array (List UInt8)) (hd : d.size = n) (os : Array Obj) :
    Sl (grow (Sort.putRow encStr (Sort.ahead w q) b off d) os) e 1 (.slice (some ⟨b, off, none⟩) n cap) h n (d.toList.map encStr) := by
  refine ⟨by simp [hd], ?_⟩
  rcases hs.2 with ⟨_, hv, _⟩ | ⟨b', off', cap', cur, hh, hv, hB, hnc, hcm, hcs, ht⟩
  · cases hv
  · simp only [Value.slice.injEq, Option.some.injEq, Addr.mk.injEq, and_true, true_and] at hv
    obtain ⟨⟨rfl, rfl⟩, rfl⟩ := hv
    refine .inr ⟨b, off, cap, _, hh, rfl, grow_blk hB q d os, hnc, hcm, by simpa [putCells] using hcs, ?_⟩
    rw [Nat.mul_one, ← hd]
    exact putCells_at cur d (by omega)
theorem Sl.owner (hs : Sl w e 1 (.slice (some ⟨b, off, none⟩) n cap) h n xs) : h = some b := by
  rcases hs.2 with ⟨_, hv, _⟩ | ⟨b', off', cap', cur, hh, hv, _⟩
  · cases hv
  · simp only [Value.slice.injEq, Option.some.injEq, Addr.mk.injEq, and_true, true_and] at hv
    rw [hh, hv.1.1]
theorem Sl.holds {ss : List (List UInt8)} (hs : Sl w e 1 (.slice (some ⟨b, off, none⟩) n cap) h n (ss.map encStr)) : Holds encStr w b off ss.toArray := by
  have hn : ss.length = n := by have := hs.1; simpa using this
  intro j hj
  have hj' : j < ss.length := by simpa using hj
  obtain ⟨b', off', cap', hh, hv, _, _, _, hat⟩ := hs.at_ (by omega)
  simp only [Value.slice.injEq, Option.some.injEq, Addr.mk.injEq, and_true, true_and] at hv
  obtain ⟨⟨rfl, rfl⟩, rfl⟩ := hv
  obtain ⟨h1, h2⟩ := hat j (by omega)
  refine ⟨?_, h2⟩
  rw [h1]
  simp [hj']
theorem Sl.shrink {size : Nat} {A : Option Addr} (hs : Sl w e size (.slice A n cap) h n xs) (k : Nat) (hk : k ≤ n) : Sl w e size (.slice A k cap) h k (xs.take (k * size)) := by
  have hl : (xs.take (k * size)).length = k * size := by
    rw [List.length_take, hs.1]
    exact Nat.min_eq_left (Nat.mul_le_mul_right _ hk)
  refine ⟨hl, ?_⟩
  rcases hs.2 with ⟨h1, hv, h2⟩ | ⟨b', off', cap', cur, hh, hv, hB, hnc, hcm, hcs, ht⟩
  · injection hv with hv1 _ hv3
    subst h2 hv1 hv3
    obtain rfl : k = 0 := by omega
    exact .inl ⟨h1, rfl, rfl⟩
  · injection hv with hv1 _ hv3
    subst hv1 hv3
    refine .inr ⟨b', off', cap, cur, hh, rfl, hB, by omega, hcm, hcs, ?_⟩
    rw [← ht, List.take_take, Nat.min_eq_left (Nat.mul_le_mul_right _ hk)]
end

/-- What a sort of bytes' rows gives. -/
def sortB (l : List (List UInt8)) : List (List UInt8) := l.mergeSort fun x y => decide (x ≤ y)
theorem sortB_length (l : List (List UInt8)) : (sortB l).length = l.length := by simp [sortB]

set_option maxHeartbeats 400000 in
theorem sortS_any (w : World) (v : Value) (h : Option Nat) (n : Nat) (l : List (List UInt8)) (hs : Sl w 9 1 v h n (l.map encStr)) (hn : n ≤ 1099511627776) :
    Calls Tryz.prog 112 #[v] w fun e w' => e = .returned (.tuple #[]) ∧ Sl w' 9 1 v h n ((sortB l).map encStr) ∧ Chg h.toList w w' := by
  have hl : l.length = n := by have := hs.1; simpa using this
  rcases hs.2 with ⟨rfl, rfl, rfl⟩ | ⟨b, off, cap, cur, rfl, rfl, hB, hnc, hcm, hcs, ht⟩
  · obtain rfl : l = [] := List.eq_nil_of_length_eq_zero hl
    refine (Tryz.slices_Sort_string_none none 0 w).mono ?_
    rintro e w' ⟨rfl, rfl⟩
    exact ⟨rfl, by simpa [sortB] using hs, Chg.refl _ _⟩
  · have hc := Tryz.slices_Sort_string b off cap l w hs.holds hB.lt (by omega)
    rw [hl] at hc
    refine hc.mono ?_
    rintro e w' ⟨rfl, q, os, rfl⟩
    refine ⟨rfl, ?_, grow_chg _ _ _ _ _ _⟩
    have h2 := hs.putRow q (sortB l).toArray (by simp [sortB_length, hl]) os
    exact h2

theorem grow_none (w : World) : grow w #[] = w := by simp [grow]

set_option maxHeartbeats 400000 in
theorem compactS_any (w : World) (v : Value) (h : Option Nat) (n : Nat) (l : List (List UInt8)) (hs : Sl w 9 1 v h n (l.map encStr)) (hn : n ≤ 1099511627776) :
    Calls Tryz.prog 113 #[v] w fun e w' => ∃ v', e = .returned v' ∧ Sl w' 9 1 v' h (Lib.compact l).length ((Lib.compact l).map encStr) ∧ Chg h.toList w w' := by
  have hl : l.length = n := by have := hs.1; simpa using this
  rcases hs.2 with ⟨rfl, rfl, rfl⟩ | ⟨b, off, cap, cur, rfl, rfl, hB, hnc, hcm, hcs, ht⟩
  · obtain rfl : l = [] := List.eq_nil_of_length_eq_zero hl
    refine (Tryz.slices_Compact_string_empty none 0 w).mono ?_
    rintro e w' ⟨rfl, rfl⟩
    exact ⟨_, rfl, hs, Chg.refl _ _⟩
  · have hc := Tryz.slices_Compact_string b off cap l w hs.holds (by omega) (by omega)
    rw [hl] at hc
    have hle := Lib.compact_length_le l
    refine hc.mono ?_
    rintro e w' ⟨rfl, q, rfl⟩
    have h2 := hs.putRow q (Lib.compact l ++ List.replicate (n - (Lib.compact l).length) []).toArray (by simp; omega) #[]
    have h3 := grow_chg w q (Lib.compact l ++ List.replicate (n - (Lib.compact l).length) []).toArray b off #[]
    rw [grow_none] at h2 h3
    refine ⟨_, rfl, ?_, h3⟩
    have h4 := h2.shrink (Lib.compact l).length (by omega)
    have h5 : ((Lib.compact l ++ List.replicate (n - (Lib.compact l).length) []).toArray.toList.map encStr).take ((Lib.compact l).length * 1) = (Lib.compact l).map encStr := by
      simp only [List.map_append, Nat.mul_one]
      rw [List.take_append_of_le_length (by simp), List.take_of_length_le (by simp)]
    rw [h5] at h4
    exact h4

theorem encStr_one (l : List (List UInt8)) : ∀ u ∈ l.map encStr, u.oneCell' = true := by
  intro u hu
  obtain ⟨x, _, rfl⟩ := List.mem_map.1 hu
  rfl

set_option maxRecDepth 100000 in
set_option maxHeartbeats 400000 in
theorem cloneS_any (w : World) (v : Value) (n : Nat) (xs : List Value) (hr : RdS w [] 1 v n xs) (h1 : ∀ u ∈ xs, u.oneCell' = true) (hn : n ≤ 2199023255552) :
    Calls Tryz.prog 111 #[v] w fun e w' => ∃ v' h', e = .returned v' ∧ Sl w' 9 1 v' h' n xs ∧ Below w.heap.size w w' ∧ ∀ b, h' = some b → w.heap.size ≤ b := by
  obtain ⟨i0, hi, hz0, hz1, hz2⟩ := info_parts Try.infoString
  rcases hr with ⟨hlen, ⟨rfl, rfl⟩ | ⟨a, cap, rfl, hnc, hcm, hcell⟩⟩
  · have hx : xs = [] := List.eq_nil_of_length_eq_zero (by simpa using hlen)
    subst hx
    have heq := fun W => Lib.run_eql_slice_nil (P := Tryz.prog) W 37 9 none 0 0 0 0 Tryz.underlying37
    go_enter Tryz.func111, Tryz.ntmps111
    go_wp2
    go_ret
    exact ⟨_, none, rfl, Sl.nil _ _ _, Below.refl _ _, fun b hb => by cases hb⟩
  · have heq := fun W => Lib.run_eql_slice_nil (P := Tryz.prog) W 37 9 (some a) n cap 0 0 Tryz.underlying37
    have hcc := cells_of_rds a hlen hcell
    go_enter Tryz.func111, Tryz.ntmps111
    go_wp2_with (at_builtin; refine wpList_append_slA _ rfl _ _ 37 rfl Tryz.underlying37 hi hz0 hz1 hz2 rfl (by decide) (slOwn_empty w 9 1) rfl a n cap xs rfl hlen ?_ h1 ?_ ?_ ?_)
    · intro j u hu
      have hb := World.block_lt_of_cell? w _ (hcc j u hu)
      rw [World.cell?_alloc_lt w _ _ hb]
      exact hcc j u hu
    · unfold maxLen
      omega
    · omega
    · intro v2 h2 w2 hs2 hc2 ho2
      have hbel : Below w.heap.size w w2 := ⟨hc2.os, hc2.tape, hc2.output, Nat.le_trans (by simp) hc2.size, fun k hk => (hc2.block k (by simp; omega) (by simp; omega)).trans (Below.heap_alloc w _ k hk)⟩
      have hfr : ∀ b, h2 = some b → w.heap.size ≤ b := by
        intro b hb
        rcases ho2 with h3 | ⟨g, h3, h4⟩
        · rw [hb] at h3
          injection h3 with h3
          omega
        · rw [hb] at h3
          injection h3 with h3
          omega
      clear hc2 ho2
      go_wp2
      go_ret
      exact ⟨v2, h2, rfl, hs2, hbel, hfr⟩

end Go.Proofs.YtmbibhphpjmboaaGreatDoor
