/-
  Slices of whole numbers of any kind that came in.
-/
import Derived.Test.YtnfabgbidkddhaaGreatDoorGCB
import Derived.ProofKit
import Derived.Deep.SlicePairs
namespace Go.Proofs.YtnfabgbidkddhaaGreatDoor
open Go.ChangeShapes Go.WideShapes Go.ChangeAt Go.RowKit

theorem spotNone {w : World} {a : Addr} {u : Value} (h : w.cell? (a.add 0) = some u) : a.spot = none := by
  have e : a.add 0 = a := by unfold Addr.add; simp
  rw [e] at h
  unfold World.cell? at h
  split at h
  · cases hs : a.spot with
    | none => rfl
    | some q => simp [hs] at h
  · cases h

section
variable {H : Type} {enc : TypeId × Value → H} {P : Program} {w : World} {base : Nat} {spare : Nat → Bool} {held : Bool}

/-- A slice of whole numbers: it reads so, each in its kind's bounds. -/
theorem nums_in {t e : TypeId} {k : IntKind} {fuel : Nat} {v : Value} {x : DataW H × List MemPlace} (ht : P.underlying t = some (.slice e)) (he : P.underlying e = some (.int k)) (ce : P.cellsOf e = 1)
    (h : DataW.trod enc P w base spare held fuel t [v] = some x) : ∃ (l : List Int), RdS w [] 1 v l.length (l.map (Value.int k)) ∧ ∀ y ∈ l, (Lit.int k y).wf = true := by
  rcases Deep.open_slice ht h with ⟨hcs, _⟩ | ⟨a, len, cap, m, n, D, Pl, hcs, _, hl, hm, hmm, _, hx⟩
  · simp at hcs
    subst hcs
    exact ⟨[], ⟨by simp, .inl ⟨rfl, rfl⟩⟩, by simp⟩
  · simp at hcs
    subst hcs
    have hle : len ≤ m := by
      rw [hmm]
      split <;> omega
    have hb : ∀ i, i < len → ∃ y : Int, w.cell? (a.add i) = some (.int k y) ∧ (Lit.int k y).wf = true := fun i hi => by
      obtain ⟨cs, h1, h2⟩ := hx i (by omega)
      rw [ce] at h1
      obtain ⟨_, hlen, hcell⟩ := World.cells?_some h1
      obtain ⟨y, rfl, _, hw⟩ := DataW.trod_int he h2
      have h3 := hcell 0 (by omega)
      rw [Deep.add_add] at h3
      exact ⟨y, by simpa using h3, hw⟩
    let f : Nat → Int := fun i => if hi : i < len then (hb i hi).choose else default
    have hf : ∀ i (hi : i < len), f i = (hb i hi).choose := fun i hi => by simp only [f, dif_pos hi]
    have hlen : ((List.range len).map f).length = len := by simp
    refine ⟨(List.range len).map f, ⟨by simp, .inr ⟨a, cap, by rw [hlen], by rw [hlen]; exact hl, hm, fun hpos => ?_⟩⟩, fun y hy => ?_⟩
    · rw [hlen] at hpos ⊢
      have hcell : ∀ j, j < len * 1 → w.cell? (a.add j) = (((List.range len).map f).map (Value.int k))[j]? := fun j hj => by
        have hi : j < len := by omega
        have h1 := (hb j hi).choose_spec.1
        rw [← hf j hi] at h1
        rw [h1]
        simp [hi]
      have h0 := hcell 0 (by omega)
      have hne : (((List.range len).map f).map (Value.int k))[0]? ≠ none := by
        rw [Ne, List.getElem?_eq_none_iff, List.length_map, hlen]
        omega
      obtain ⟨u, hu⟩ := Option.ne_none_iff_exists'.1 hne
      rw [hu] at h0
      have hspot : a.spot = none := spotNone h0
      obtain ⟨b, off, sp⟩ := a
      simp only at hspot
      subst hspot
      have := World.block_lt_of_cell? w _ h0
      rw [Addr.add_lit] at this
      refine ⟨rfl, this, by simp, fun j hj => ?_⟩
      have h3 := hcell j hj
      rw [Addr.add_lit] at h3
      exact h3
    · obtain ⟨i, hi, rfl⟩ := List.mem_map.1 hy
      have hi' := List.mem_range.1 hi
      rw [hf i hi']
      exact (hb i hi').choose_spec.2
end

end Go.Proofs.YtnfabgbidkddhaaGreatDoor
