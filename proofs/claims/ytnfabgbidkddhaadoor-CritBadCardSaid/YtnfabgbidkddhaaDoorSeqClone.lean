/-
  Slices of ranges of the call's own: cloned, sorted.
-/
import Derived.Test.YtnfabgbidkddhaaDoorSeqSort2
namespace Go.Proofs.YtnfabgbidkddhaaDoor
open Go.Shelf Go.RowKit Go.Lib Go.Sort
attribute [local go_sem ↓] Go.wp_at_zero Go.wp_at_succ

theorem Tryd.infoRange : (Tryd.prog.info? 58).map (fun i => (i.zero, i.size, i.bytes)) = some (some (.agg #[.int .i64 0, .int .i64 0]), 2, 16) := by kernel_rfl

/-- The cells of ranges. -/
def flatR (l : List Rg) : List Value := l.flatMap encR
theorem flatR_length (l : List Rg) : (flatR l).length = l.length * 2 := by
  induction l with
  | nil => rfl
  | cons x l ih =>
    show (encR x ++ flatR l).length = _
    rw [List.length_append, ih, List.length_cons]
    show 2 + _ = _
    omega
theorem flatR_append (l m : List Rg) : flatR (l ++ m) = flatR l ++ flatR m := by simp [flatR]
theorem flatR_one (l : List Rg) : ∀ u ∈ flatR l, u.oneCell' = true := by
  intro u hu
  obtain ⟨e, _, he⟩ := List.mem_flatMap.1 hu
  simp [encR] at he
  rcases he with rfl | rfl <;> rfl
theorem flatR_at : ∀ (l : List Rg) (j : Nat) (h : j < l.length), (flatR l)[j * 2]? = some (.int .i64 l[j].1) ∧ (flatR l)[j * 2 + 1]? = some (.int .i64 l[j].2)
  | x :: l, 0, _ => ⟨rfl, rfl⟩
  | x :: l, j + 1, h => by
    have ih := flatR_at l j (by simpa using h)
    have e : flatR (x :: l) = .int .i64 x.1 :: .int .i64 x.2 :: flatR l := rfl
    rw [e, show (j + 1) * 2 = j * 2 + 1 + 1 by omega]
    simpa using ih
theorem flatK_flatR (l : List Rg) : (flatK encR 2 l.toArray).toList = flatR l := by
  apply List.ext_getElem
  · simp [flatR_length]
  · intro t h1 h2
    have ht : t < l.length * 2 := by simpa [flatR_length] using h2
    have hg := get_flatK encR 2 l.toArray t (by simpa using ht)
    rw [getElem!_pos _ _ (by simpa using ht)] at hg
    rw [Array.getElem_toList, hg]
    have hj : t / 2 < l.length := by omega
    obtain ⟨a, b⟩ := flatR_at l (t / 2) hj
    have hx : (l.toArray[t / 2]! : Rg) = l[t / 2] := by rw [getElem!_pos _ _ (by simpa using hj)]; simp
    rw [hx]
    rcases Nat.mod_two_eq_zero_or_one t with h | h
    · have e : t / 2 * 2 = t := by omega
      rw [e] at a
      rw [h]
      rw [List.getElem?_eq_getElem h2] at a
      injection a with a
      exact a.symm
    · have e : t / 2 * 2 + 1 = t := by omega
      rw [e] at b
      rw [h]
      rw [List.getElem?_eq_getElem h2] at b
      injection b with b
      exact b.symm

section
variable {w w' : World} {e : TypeId} {b off n cap size : Nat} {h : Option Nat} {xs : List Value}

theorem growV_chg (w : World) (q : Nat) (d : Array Value) (b off : Nat) (os : Array Obj) : Chg [b] w (grow (putRow id (Sort.ahead w q) b off d) os) := by
  refine ⟨rfl, rfl, rfl, by simp, fun k hk hne => ?_⟩
  rw [heap_grow_old _ _ (by simpa using hk)]
  have : b ≠ k := fun e => hne (by simp [e])
  simp [putRow, mapBlock, Sort.ahead, Array.getElem?_modify, this]
theorem growV_blk {cur : Array Value} (hB : Blk w b e cur) (q : Nat) (d : Array Value) (os : Array Obj) : Blk (grow (putRow id (Sort.ahead w q) b off d) os) b e (putCells id off d cur) := by
  have hlt := hB.lt
  unfold Blk at hB ⊢
  rw [heap_grow_old _ _ (by simpa using hlt)]
  simp [putRow, mapBlock, Sort.ahead, Array.getElem?_modify, hB]
  rfl
theorem putCellsV_at (cur : Array Value) (d : Array Value) (h : off + d.size ≤ cur.size) : ((putCells id off d cur).toList.drop off).take d.size = d.toList := by
  apply List.ext_getElem?
  intro k
  rw [List.getElem?_take]
  by_cases hk : k < d.size
  · rw [if_pos hk, List.getElem?_drop]
    simp only [putCells, Array.getElem?_toList, Array.getElem?_mapIdx]
    rw [Array.getElem?_eq_getElem (show off + k < cur.size by omega), Option.map_some, if_pos ⟨by omega, by omega⟩, Nat.add_sub_cancel_left]
    simp [hk]
  · rw [if_neg hk, List.getElem?_eq_none]
    simp
    omega
theorem Sl.putRowV (hs : Sl w e size (.slice (some ⟨b, off, none⟩) n cap) h n xs) (q : Nat) (d : Array Value) (hd : d.size = n * size) (os : Array Obj) :
    Sl (grow (Sort.putRow id (Sort.ahead w q) b off d) os) e size (.slice (some ⟨b, off, none⟩) n cap) h n d.toList := by
  refine ⟨by simpa using hd, ?_⟩
  rcases hs.2 with ⟨_, hv, _⟩ | ⟨b', off', cap', cur, hh, hv, hB, hnc, hcm, hcs, ht⟩
  · cases hv
  · simp only [Value.slice.injEq, Option.some.injEq, Addr.mk.injEq, and_true, true_and] at hv
    obtain ⟨⟨rfl, rfl⟩, rfl⟩ := hv
    have hle : n * size ≤ cap * size := Nat.mul_le_mul_right _ hnc
    refine .inr ⟨b, off, cap, _, hh, rfl, growV_blk hB q d os, hnc, hcm, by simpa [putCells] using hcs, ?_⟩
    rw [← hd]
    exact putCellsV_at cur d (by omega)
theorem Sl.holdsV {d : Array Value} (hs : Sl w e size (.slice (some ⟨b, off, none⟩) n cap) h n d.toList) : Holds id w b off d := by
  have hn : d.size = n * size := by have := hs.1; simpa using this
  intro j hj
  have hn0 : 0 < n := by
    rcases Nat.eq_zero_or_pos n with h0 | h0
    · subst h0; omega
    · exact h0
  obtain ⟨b', off', cap', hh, hv, _, _, _, hat⟩ := hs.at_ hn0
  simp only [Value.slice.injEq, Option.some.injEq, Addr.mk.injEq, and_true, true_and] at hv
  obtain ⟨⟨rfl, rfl⟩, rfl⟩ := hv
  obtain ⟨h1, h2⟩ := hat j (by omega)
  refine ⟨?_, h2⟩
  rw [h1]
  simp [hj]
end

theorem sortedR_length (l : List Rg) : (sortedR l).length = l.length := by simp [sortedR]

set_option maxHeartbeats 400000 in
theorem sortSl_any (w : World) (v : Value) (h : Option Nat) (n : Nat) (l : List Rg) (hs : Sl w 58 2 v h n (flatR l)) (hn : n ≤ 1099511627776) :
    Calls Tryd.prog 38 #[v, .func (.func 39) #[] #[]] w fun e w' => e = .returned (.tuple #[]) ∧ Sl w' 58 2 v h n (flatR (sortedR l)) ∧ Chg h.toList w w' := by
  have hl : l.length = n := by have := hs.1; rw [flatR_length] at this; omega
  rcases hs.2 with ⟨rfl, rfl, rfl⟩ | ⟨b, off, cap, cur, rfl, rfl, hB, hnc, hcm, hcs, ht⟩
  · obtain rfl : l = [] := List.eq_nil_of_length_eq_zero hl
    refine (sortR_none none 0 _ w).mono ?_
    rintro e w' ⟨rfl, rfl⟩
    exact ⟨rfl, by simpa [sortedR] using hs, Chg.refl _ _⟩
  · have hs' := hs
    rw [← flatK_flatR l] at hs'
    have hc := sortR_any b off cap l.toArray w hs'.holdsV hB.lt (by simp; omega)
    have hsz : l.toArray.size = n := by simpa using hl
    rw [hsz] at hc
    refine hc.mono ?_
    rintro e w' ⟨rfl, q, os, rfl⟩
    refine ⟨rfl, ?_, growV_chg _ _ _ _ _ _⟩
    have h2 := hs.putRowV q (flatK encR 2 (sortedR l).toArray) (by simp [sortedR_length, hl]) os
    rw [flatK_flatR] at h2
    exact h2

theorem cells_of_rds {w : World} {size n : Nat} {xs : List Value} (a : Addr) (hlen : xs.length = n * size) (h : 0 < n → a.spot = none ∧ a.block < w.heap.size ∧ a.block ∉ ([] : List Nat) ∧ ∀ j, j < n * size → w.cell? ⟨a.block, a.off + j, none⟩ = xs[j]?) :
    ∀ j u, xs[j]? = some u → w.cell? (a.add j) = some u := by
  intro j u hu
  have hj : j < n * size := by
    have := (List.getElem?_eq_some_iff.1 hu).1
    omega
  have hn : 0 < n := by
    rcases Nat.eq_zero_or_pos n with h0 | h0
    · subst h0
      omega
    · exact h0
  obtain ⟨r1, _, _, r4⟩ := h hn
  obtain ⟨b, off, sp⟩ := a
  simp only at r1 r4
  subst r1
  rw [Addr.add_lit, r4 j hj, hu]

theorem slOwn_empty (w : World) (e : TypeId) (size : Nat) : Sl (w.alloc (.cells #[] e)) e size (.slice (some ⟨w.heap.size, 0, none⟩) 0 0) (some w.heap.size) 0 [] :=
  ⟨by simp, .inr ⟨w.heap.size, 0, 0, #[], rfl, rfl, Blk.new _ _ _, Nat.le_refl _, Nat.zero_le _, by simp, by simp⟩⟩

set_option maxRecDepth 100000 in
set_option maxHeartbeats 400000 in
theorem cloneR_any (w : World) (v : Value) (n : Nat) (xs : List Value) (hr : RdS w [] 2 v n xs) (h1 : ∀ u ∈ xs, u.oneCell' = true) (hn : n ≤ 2199023255552) :
    Calls Tryd.prog 37 #[v] w fun e w' => ∃ v' h', e = .returned v' ∧ Sl w' 58 2 v' h' n xs ∧ Below w.heap.size w w' ∧ ∀ b, h' = some b → w.heap.size ≤ b := by
  obtain ⟨i0, hi, hz0, hz1, hz2⟩ := info_parts Tryd.infoRange
  rcases hr with ⟨hlen, ⟨rfl, rfl⟩ | ⟨a, cap, rfl, hnc, hcm, hcell⟩⟩
  · have hx : xs = [] := List.eq_nil_of_length_eq_zero (by simpa using hlen)
    subst hx
    have heq := fun W => Lib.run_eql_slice_nil (P := Tryd.prog) W 42 58 none 0 0 0 0 Tryd.underlying42
    go_enter Tryd.func37, Tryd.ntmps37
    go_wp2
    go_ret
    exact ⟨_, none, rfl, Sl.nil _ _ _, Below.refl _ _, fun b hb => by cases hb⟩
  · have heq := fun W => Lib.run_eql_slice_nil (P := Tryd.prog) W 42 58 (some a) n cap 0 0 Tryd.underlying42
    have hcc := cells_of_rds a hlen hcell
    go_enter Tryd.func37, Tryd.ntmps37
    go_wp2_with (at_builtin; refine wpList_append_slA _ rfl _ _ 42 rfl Tryd.underlying42 hi hz0 hz1 hz2 rfl (by decide) (slOwn_empty w 58 2) rfl a n cap xs rfl hlen ?_ h1 ?_ ?_ ?_)
    · intro j u hu
      have hb := World.block_lt_of_cell? w _ (hcc j u hu)
      rw [World.cell?_alloc_lt w _ _ hb]
      exact hcc j u hu
    · unfold maxLen
      omega
    · omega
    · intro v2 h2 w2 hs2 hc2 ho2
      have hbel : Below w.heap.size w w2 := ⟨hc2.os, hc2.tape, hc2.output, Nat.le_trans (by simp) hc2.size, fun k hk => (hc2.block k (by simp; omega) (by simp; omega)).trans (Below.heap_alloc w _ k hk)⟩
      have hfr : ∀ b, h2 = some b → w.heap.size ≤ b := by
        intro b hb
        rcases ho2 with h3 | ⟨g, h3, h4⟩
        · rw [hb] at h3
          injection h3 with h3
          omega
        · rw [hb] at h3
          injection h3 with h3
          omega
      clear hc2 ho2
      go_wp2
      go_ret
      exact ⟨v2, h2, rfl, by simpa using hs2, hbel, hfr⟩

end Go.Proofs.YtnfabgbidkddhaaDoor
