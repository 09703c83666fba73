/-
  A slice of ranges cloned into memory of the call's own, whose block begins with it; an append into such a block that has room, as seq.Merge makes it.
-/
import Derived.Test.YtnfabgbidkddhaaDoorSeqClone
import Derived.Shelf.SlicesE.Clone
import Derived.Ground.SlgnProg
namespace Go.Proofs.YtnfabgbidkddhaaDoor
open Go.Shelf Go.RowKit Go.Lib Go.Sort

shelf_lay_g SlLaysE0.n41 Slgn 41 at Tryd 37 as Tryd.cloneR

/-- A block of the call's own that begins with the ranges D (n of them), seen as a slice. -/
def RowR (w : World) (g n cap : Nat) (D : List Rg) : Prop := Sl w 58 2 (.slice (some ⟨g, 0, none⟩) n cap) (some g) n (flatR D)

set_option maxHeartbeats 400000 in
theorem cloneSl_any (w : World) (v : Value) (h : Option Nat) (n : Nat) (l : List Rg) (hs : Sl w 58 2 v h n (flatR l)) (hn : n ≤ 1099511627776) :
    Calls Tryd.prog 37 #[v] w fun e w' => ∃ v', e = .returned v' ∧ ((v' = .slice none 0 0 ∧ n = 0 ∧ l = []) ∨ ∃ g cap, v' = .slice (some ⟨g, 0, none⟩) n cap ∧ RowR w' g n cap l ∧ w.heap.size ≤ g) ∧ Below w.heap.size w w' := by
  obtain ⟨i0, hi, hz0, hz1, hz2⟩ := info_parts Tryd.infoRange
  have hl : l.length = n := by have := hs.1; rw [flatR_length] at this; omega
  rcases hs.2 with ⟨rfl, rfl, rfl⟩ | ⟨b, off, cap, cur, rfl, rfl, hB, hnc, hcm, hcs, ht⟩
  · obtain rfl : l = [] := List.eq_nil_of_length_eq_zero hl
    refine (AnyE.slices_Clone_nil Tryd.cloneR 0 0 w).mono ?_
    rintro e w' ⟨rfl, rfl⟩
    exact ⟨_, rfl, .inl ⟨rfl, rfl, rfl⟩, Below.refl _ _⟩
  · have hat : ∀ j u, (flatR l)[j]? = some u → w.cell? ⟨b, off + j, none⟩ = some u := fun j u hj => by
      have hj2 : j < n * 2 := by
        have := (List.getElem?_eq_some_iff.1 hj).1
        rw [flatR_length] at this
        omega
      rw [hB.cell, ← Array.getElem?_toList]
      rw [← ht, List.getElem?_take, if_pos hj2, List.getElem?_drop] at hj
      exact hj
    have hc := AnyE.slices_Clone Tryd.cloneR i0 (.agg #[.int .i64 0, .int .i64 0]) 2 16 hi hz0 hz1 hz2 rfl (by decide) Tryd.sizeOf58 b off n cap (flatR l) w (by rw [flatR_length]; omega) (by unfold maxLen; omega) (by omega) hat (flatR_one l)
    refine hc.mono ?_
    rintro e w' ⟨v', rfl, ho, hne, hb⟩
    refine ⟨v', rfl, .inr ?_, hb⟩
    have hsl := Sl.of_own ho
    rcases ho.2 with ⟨h1, _⟩ | ⟨g, cap', cur', rfl, hg, _⟩
    · exact absurd h1 hne
    · exact ⟨g, cap', rfl, hsl, hg⟩

theorem flatR_set : ∀ (D : List Rg) (m : Nat) (x : Rg), m < D.length → flatR (D.set m x) = (flatR D).take (m * 2) ++ encR x ++ (flatR D).drop (m * 2 + 2)
  | y :: D, 0, x, _ => rfl
  | y :: D, m + 1, x, h => by
    have ih := flatR_set D m x (by simpa using h)
    have e : ∀ D : List Rg, flatR (y :: D) = .int .i64 y.1 :: .int .i64 y.2 :: flatR D := fun _ => rfl
    rw [List.set_cons_succ, e, e, show (m + 1) * 2 = m * 2 + 1 + 1 by omega, show m * 2 + 1 + 1 + 2 = (m * 2 + 2) + 1 + 1 by omega, ih]
    simp

/-- The store of a range's second number. -/
theorem flatR_to (D : List Rg) (m : Nat) (h : m < D.length) (y : Int) : (flatR D).set (m * 2 + 1) (.int .i64 y) = flatR (D.set m (D[m].1, y)) := by
  induction D generalizing m with
  | nil => simp at h
  | cons z D ih =>
    cases m with
    | zero => rfl
    | succ m =>
      have := ih m (by simpa using h)
      have e : ∀ D : List Rg, flatR (z :: D) = .int .i64 z.1 :: .int .i64 z.2 :: flatR D := fun _ => rfl
      rw [List.set_cons_succ, e, e, show (m + 1) * 2 + 1 = (m * 2 + 1) + 1 + 1 by omega, List.set_cons_succ, List.set_cons_succ, this]
      rfl

theorem run_append_in {w : World} {g n cap : Nat} {D : List Rg} (hs : RowR w g n cap D) (m : Nat) (hm : m < n) (a : Addr) (c : Nat) (x : Rg)
    (hnews : ∀ j u, (encR x)[j]? = some u → w.cell? (a.add j) = some u) (ty : TypeId) :
    ∃ w', (Builtin.append_ #[42, 42] ty #[.slice (some ⟨g, 0, none⟩) m n, .slice (some a) 1 c]).run Tryd.prog w = .ok (.slice (some ⟨g, 0, none⟩) (m + 1) n) w' ∧ RowR w' g n cap (D.set m x) ∧ Chg [g] w w' := by
  obtain ⟨i0, hi, hz0, hz1, hz2⟩ := info_parts Tryd.infoRange
  have hl : D.length = n := by have := hs.1; rw [flatR_length] at this; omega
  rcases hs.2 with ⟨_, hv, _⟩ | ⟨b', off', cap', cur, hh, hv, hB, hnc, hcm, hcs, ht⟩
  · cases hv
  · simp only [Value.slice.injEq, Option.some.injEq, Addr.mk.injEq, and_true, true_and] at hv
    obtain ⟨⟨rfl, rfl⟩, rfl⟩ := hv
    have hr := run_append_room (P := Tryd.prog) w 42 ty 58 i0 Tryd.underlying42 hi g m n cur hB a 1 c (encR x) (by rw [hz1]; rfl) hnews (fun u hu => by simp [encR] at hu; rcases hu with rfl | rfl <;> rfl) (by omega) (by rw [hz1]; show m * 2 + 2 ≤ _; omega)
    rw [hz1] at hr
    refine ⟨_, hr, ?_, ⟨rfl, rfl, rfl, by simp [World.setRow], fun k _ hk => setRow_other w g k _ (fun e => hk (by simp [e]))⟩⟩
    refine ⟨by rw [flatR_length]; simp [hl], .inr ⟨g, 0, cap, _, rfl, rfl, setRow_heap w g cur _ _ _ hB, hnc, hcm, ?_, ?_⟩⟩
    · simp only [List.size_toArray, List.length_append, List.length_take, List.length_drop, Array.length_toList]
      show 0 + cap * 2 ≤ min (m * 2) cur.size + 2 + (cur.size - (m * 2 + 2))
      omega
    · rw [flatR_set D m x (by omega), ← ht]
      simp only [List.drop_zero]
      show ((cur.toList.take (m * 2) ++ encR x) ++ cur.toList.drop (m * 2 + 2)).take (n * 2) = _
      have h1 : (cur.toList.take (m * 2) ++ encR x).length = m * 2 + 2 := by
        rw [List.length_append, List.length_take, Nat.min_eq_left (by simp; omega)]; rfl
      rw [List.take_append, List.take_of_length_le (by omega), h1, List.take_take, Nat.min_eq_left (by omega), List.drop_take]

end Go.Proofs.YtnfabgbidkddhaaDoor
