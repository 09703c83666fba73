/-
  The walk of seq.Merge: ranges sorted, those that meet or touch as one, in memory of the call's own.
-/
import Derived.Test.YtnfabgbidkddhaaGreatDoorGCB
import Derived.Test.YtnfabgbidkddhaaGreatDoorSeqPartM
import Derived.Deep.QuietTactic
import Derived.Deep.CutBlock
import Derived.BigQuiet
namespace Go.Proofs.YtnfabgbidkddhaaGreatDoor
open Go.Shelf Go.RowKit Go.Lib Go.Sort
attribute [local go_sem ↓] Go.wp_at_zero Go.wp_at_succ

theorem RowR.len {w : World} {g n cap : Nat} {D : List Rg} (hs : RowR w g n cap D) : D.length = n := by
  have := hs.1; rw [flatR_length] at this; omega
theorem RowR.at_ {w : World} {g n cap : Nat} {D : List Rg} (hs : RowR w g n cap D) (j : Nat) (hj : j < n) (hj2 : j < D.length) :
    w.cell? ⟨g, j * 2, none⟩ = some (.int .i64 D[j].1) ∧ w.cell? ⟨g, j * 2 + 1, none⟩ = some (.int .i64 D[j].2) ∧ w.frozen? ⟨g, j * 2 + 1, none⟩ = false := by
  obtain ⟨b, off, cap', hh, hv, _, _, _, hat⟩ := Sl.at_ hs (by omega)
  simp only [Value.slice.injEq, Option.some.injEq, Addr.mk.injEq, and_true, true_and] at hv
  obtain ⟨⟨rfl, rfl⟩, rfl⟩ := hv
  obtain ⟨a1, a2⟩ := flatR_at D j hj2
  have h0 := hat (j * 2) (by omega)
  have h1 := hat (j * 2 + 1) (by omega)
  rw [Nat.zero_add] at h0 h1
  exact ⟨h0.1.trans a1, h1.1.trans a2, h1.2⟩
theorem RowR.out {w : World} {g n cap : Nat} {D : List Rg} (hs : RowR w g n cap D) (m : Nat) (hm : m ≤ n) :
    Sl w 75 2 (.slice (some ⟨g, 0, none⟩) m n) (some g) m (flatR (D.take m)) := by
  have hl := hs.len
  refine ⟨by rw [flatR_length, List.length_take]; omega, ?_⟩
  rcases hs.2 with ⟨_, hv, _⟩ | ⟨b', off', cap', cur, hh, hv, hB, hnc, hcm, hcs, ht⟩
  · cases hv
  · simp only [Value.slice.injEq, Option.some.injEq, Addr.mk.injEq, and_true, true_and] at hv
    obtain ⟨⟨rfl, rfl⟩, rfl⟩ := hv
    refine .inr ⟨g, 0, n, cur, rfl, rfl, hB, hm, by omega, by omega, ?_⟩
    have hft : flatR (D.take m) = (flatR D).take (m * 2) := by
      have h1 : flatR D = flatR (D.take m) ++ flatR (D.drop m) := by rw [← flatR_append, List.take_append_drop]
      have h2 : (flatR (D.take m) ++ flatR (D.drop m)).take (m * 2) = flatR (D.take m) := List.take_left' (by rw [flatR_length, List.length_take]; omega)
      rw [← h1] at h2
      exact h2.symm
    rw [hft, ← ht, List.take_take, Nat.min_eq_left (by omega)]
theorem RowR.to {w : World} {g n cap : Nat} {D : List Rg} (hs : RowR w g n cap D) (j : Nat) (hj : j < D.length) (y : Int) :
    RowR (w.setCell ⟨g, j * 2 + 1, none⟩ (.int .i64 y)) g n cap (D.set j (D[j].1, y)) := by
  have h := Sl.store hs (j * 2 + 1) (.int .i64 y)
  rw [Nat.zero_add, flatR_to D j hj] at h
  exact h

theorem take_pred {α : Type} {D : List α} {m : Nat} (h0 : 0 < m) (h3 : m - 1 < D.length) : D.take m = D.take (m - 1) ++ [D[m - 1]] := by
  obtain ⟨p, rfl⟩ : ∃ p, m = p + 1 := ⟨m - 1, by omega⟩
  exact List.take_succ_eq_append_getElem h3
theorem set_last {α : Type} {D : List α} {p : Nat} (h : p ≤ D.length) (a b : α) : (D.take p ++ [a]).set p b = D.take p ++ [b] := by
  rw [List.set_append_right _ _ (by simp; omega)]
  have e : p - (D.take p).length = 0 := by rw [List.length_take]; omega
  rw [e]
  rfl

/-- What the loop keeps. -/
structure MSt (s D : List Rg) (n m k : Nat) : Prop where
  hm : m ≤ k
  hk : k ≤ n
  hn : s.length = n
  hd : D.length = n
  pre : D.take m = (s.take k).foldl mStep []
  post : D.drop k = s.drop k

theorem MSt.start {s : List Rg} {n : Nat} (hn : s.length = n) : MSt s s n 0 0 := ⟨Nat.le_refl _, Nat.zero_le _, hn, hn, by simp, rfl⟩
theorem MSt.here {s D : List Rg} {n m k : Nat} (h : MSt s D n m k) (h1 : k < D.length) (h2 : k < s.length) : D[k] = s[k] := by
  have := congrArg (·[0]?) h.post
  simp only [List.getElem?_drop, Nat.add_zero] at this
  rw [List.getElem?_eq_getElem h1, List.getElem?_eq_getElem h2] at this
  injection this
theorem MSt.fold {s D : List Rg} {n m k : Nat} (h : MSt s D n m k) (h2 : k < s.length) : (s.take (k + 1)).foldl mStep [] = mStep (D.take m) s[k] := by
  rw [List.take_succ_eq_append_getElem h2, List.foldl_append, ← h.pre]
  rfl
theorem MSt.join {s D : List Rg} {n m k : Nat} (h : MSt s D n m k) (h2 : k < s.length) (h0 : 0 < m) (h3 : m - 1 < D.length) (hc : s[k].1 - 1 ≤ D[m - 1].2) :
    MSt s (D.set (m - 1) (D[m - 1].1, max D[m - 1].2 s[k].2)) n m (k + 1) := by
  have hk : k < n := by have := h.hn; omega
  have hmk := h.hm
  refine ⟨by omega, by omega, h.hn, by simpa using h.hd, ?_, ?_⟩
  · rw [h.fold h2]
    have e := take_pred h0 h3
    unfold mStep
    rw [e]
    simp only [List.getLast?_append, List.getLast?_singleton, Option.some_or, List.dropLast_concat]
    rw [if_pos hc, List.take_set, e, set_last (by omega)]
  · have hp := congrArg (List.drop 1) h.post
    rw [List.drop_drop, List.drop_drop] at hp
    rw [List.drop_set, if_pos (by omega)]
    exact hp
theorem MSt.push {s D : List Rg} {n m k : Nat} (h : MSt s D n m k) (h2 : k < s.length) (hc : ∀ (_ : 0 < m) (h3 : m - 1 < D.length), ¬ s[k].1 - 1 ≤ D[m - 1].2) :
    MSt s (D.set m s[k]) n (m + 1) (k + 1) := by
  have hk : k < n := by have := h.hn; omega
  have hmk := h.hm
  have hd := h.hd
  refine ⟨by omega, by omega, h.hn, by simpa using h.hd, ?_, ?_⟩
  · rw [h.fold h2, List.take_set, List.take_succ_eq_append_getElem (by omega), set_last (by omega)]
    rcases Nat.eq_zero_or_pos m with h0 | h0
    · subst h0
      rfl
    · have h3 : m - 1 < D.length := by omega
      have e := take_pred h0 h3
      unfold mStep
      rw [e]
      simp only [List.getLast?_append, List.getLast?_singleton, Option.some_or]
      rw [if_neg (hc h0 h3)]
  · have hp := congrArg (List.drop 1) h.post
    rw [List.drop_drop, List.drop_drop] at hp
    rw [List.drop_set, if_pos (by omega)]
    exact hp

end Go.Proofs.YtnfabgbidkddhaaGreatDoor
