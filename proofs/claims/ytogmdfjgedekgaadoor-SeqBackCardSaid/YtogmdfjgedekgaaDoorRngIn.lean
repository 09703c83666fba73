/-
  Slices that came in: of structs of two whole numbers, of whole numbers of any kind.
-/
import Derived.Test.YtogmdfjgedekgaaDoorSeqRow
import Derived.Test.YtogmdfjgedekgaaDoorLaw
import Derived.Deep.SlicePairs
namespace Go.Proofs.YtogmdfjgedekgaaDoor
open Go.ChangeShapes Go.WideShapes Go.ChangeAt Go.RowKit

theorem spotNone {w : World} {a : Addr} {u : Value} (h : w.cell? (a.add 0) = some u) : a.spot = none := by
  have e : a.add 0 = a := by unfold Addr.add; simp
  rw [e] at h
  unfold World.cell? at h
  split at h
  · cases hs : a.spot with
    | none => rfl
    | some q => simp [hs] at h
  · cases h

section
variable {H : Type} {enc : TypeId × Value → H} {P : Program} {w : World} {base : Nat} {spare : Nat → Bool} {held : Bool}

theorem two_in {e : TypeId} {f0 f1 : Field} {n : Nat} {cs : List Value} {x : DataW H × List MemPlace} (he : P.underlying e = some (.struct #[f0, f1])) (hlen : cs.length = 2)
    (o0 : f0.offset = 0) (o1 : f1.offset = 1) (c0 : P.cellsOf f0.type = 1) (c1 : P.cellsOf f1.type = 1) (u0 : P.underlying f0.type = some (.int .i64)) (u1 : P.underlying f1.type = some (.int .i64))
    (h : DataW.trod enc P w base spare held n e cs = some x) : ∃ y : Rg, cs = encR y := by
  obtain ⟨xs, k, hk, hxy, _, hxl, hf⟩ := DataW.trod_struct he h
  match cs, hlen with
  | [v0, v1], _ =>
    have g0 := hf 0 f0 rfl
    have g1 := hf 1 f1 rfl
    match xs, hxl with
    | [y0, y1], _ =>
      simp [o0, o1, c0, c1] at g0 g1
      obtain ⟨a0, e0, _, _⟩ := DataW.trod_int u0 g0
      obtain ⟨a1, e1, _, _⟩ := DataW.trod_int u1 g1
      simp at e0 e1
      exact ⟨(a0, a1), by simp [encR, e0, e1]⟩

/-- A slice of such structs: it reads so. -/
theorem ranges_in {t e : TypeId} {f0 f1 : Field} {fuel : Nat} {v : Value} {x : DataW H × List MemPlace} (ht : P.underlying t = some (.slice e)) (he : P.underlying e = some (.struct #[f0, f1])) (ce : P.cellsOf e = 2)
    (o0 : f0.offset = 0) (o1 : f1.offset = 1) (c0 : P.cellsOf f0.type = 1) (c1 : P.cellsOf f1.type = 1) (u0 : P.underlying f0.type = some (.int .i64)) (u1 : P.underlying f1.type = some (.int .i64))
    (h : DataW.trod enc P w base spare held fuel t [v] = some x) : ∃ (l : List Rg), RdS w [] 2 v l.length (flatR l) := by
  rcases Deep.open_slice ht h with ⟨hcs, _⟩ | ⟨a, len, cap, m, n, D, Pl, hcs, _, hl, hm, hmm, _, hx⟩
  · simp at hcs
    subst hcs
    exact ⟨[], by simp [flatR], .inl ⟨rfl, rfl⟩⟩
  · simp at hcs
    subst hcs
    have hle : len ≤ m := by
      rw [hmm]
      split <;> omega
    have hb : ∀ i, i < len → ∃ y : Rg, ∀ j, j < 2 → w.cell? (a.add (i * 2 + j)) = (encR y)[j]? := fun i hi => by
      obtain ⟨cs, h1, h2⟩ := hx i (by omega)
      rw [ce] at h1
      obtain ⟨_, hlen, hcell⟩ := World.cells?_some h1
      obtain ⟨y, rfl⟩ := two_in he hlen o0 o1 c0 c1 u0 u1 h2
      refine ⟨y, fun j hj => ?_⟩
      have h3 := hcell j hj
      rw [Deep.add_add] at h3
      exact h3
    let f : Nat → Rg := fun i => if hi : i < len then (hb i hi).choose else default
    have hlen : ((List.range len).map f).length = len := by simp
    refine ⟨(List.range len).map f, by rw [flatR_length], .inr ⟨a, cap, by rw [hlen], by rw [hlen]; exact hl, hm, fun hpos => ?_⟩⟩
    rw [hlen] at hpos ⊢
    have hcell : ∀ j, j < len * 2 → w.cell? (a.add j) = (flatR ((List.range len).map f))[j]? := fun j hj => by
      have hi : j / 2 < len := by omega
      have h2 := flatR_at ((List.range len).map f) (j / 2) (by rw [hlen]; exact hi)
      simp only [List.getElem_map, List.getElem_range] at h2
      have hc := (hb (j / 2) hi).choose_spec
      have hf : f (j / 2) = (hb (j / 2) hi).choose := by simp only [f, dif_pos hi]
      rw [← hf] at hc
      rcases Nat.mod_two_eq_zero_or_one j with h0 | h0
      · have e : j = j / 2 * 2 := by omega
        have h3 := hc 0 (by omega)
        rw [Nat.add_zero, ← e] at h3
        have h4 := h2.1
        rw [← e] at h4
        rw [h3, h4]
        rfl
      · have e : j = j / 2 * 2 + 1 := by omega
        have h3 := hc 1 (by omega)
        rw [← e] at h3
        have h4 := h2.2
        rw [← e] at h4
        rw [h3, h4]
        rfl
    have h0 := hcell 0 (by omega)
    have hne : (flatR ((List.range len).map f))[0]? ≠ none := by
      rw [Ne, List.getElem?_eq_none_iff, flatR_length, hlen]
      omega
    obtain ⟨u, hu⟩ := Option.ne_none_iff_exists'.1 hne
    rw [hu] at h0
    have hspot : a.spot = none := spotNone h0
    obtain ⟨b, off, sp⟩ := a
    simp only at hspot
    subst hspot
    have := World.block_lt_of_cell? w _ h0
    rw [Addr.add_lit] at this
    refine ⟨rfl, this, by simp, fun j hj => ?_⟩
    have h3 := hcell j hj
    rw [Addr.add_lit] at h3
    exact h3

/-- A slice of whole numbers: it reads so, each in its kind's bounds. -/
theorem nums_in {t e : TypeId} {k : IntKind} {fuel : Nat} {v : Value} {x : DataW H × List MemPlace} (ht : P.underlying t = some (.slice e)) (he : P.underlying e = some (.int k)) (ce : P.cellsOf e = 1)
    (h : DataW.trod enc P w base spare held fuel t [v] = some x) : ∃ (l : List Int), RdS w [] 1 v l.length (l.map (Value.int k)) ∧ ∀ y ∈ l, (Lit.int k y).wf = true := by
  rcases Deep.open_slice ht h with ⟨hcs, _⟩ | ⟨a, len, cap, m, n, D, Pl, hcs, _, hl, hm, hmm, _, hx⟩
  · simp at hcs
    subst hcs
    exact ⟨[], ⟨by simp, .inl ⟨rfl, rfl⟩⟩, by simp⟩
  · simp at hcs
    subst hcs
    have hle : len ≤ m := by
      rw [hmm]
      split <;> omega
    have hb : ∀ i, i < len → ∃ y : Int, w.cell? (a.add i) = some (.int k y) ∧ (Lit.int k y).wf = true := fun i hi => by
      obtain ⟨cs, h1, h2⟩ := hx i (by omega)
      rw [ce] at h1
      obtain ⟨_, hlen, hcell⟩ := World.cells?_some h1
      obtain ⟨y, rfl, _, hw⟩ := DataW.trod_int he h2
      have h3 := hcell 0 (by omega)
      rw [Deep.add_add] at h3
      exact ⟨y, by simpa using h3, hw⟩
    let f : Nat → Int := fun i => if hi : i < len then (hb i hi).choose else default
    have hf : ∀ i (hi : i < len), f i = (hb i hi).choose := fun i hi => by simp only [f, dif_pos hi]
    have hlen : ((List.range len).map f).length = len := by simp
    refine ⟨(List.range len).map f, ⟨by simp, .inr ⟨a, cap, by rw [hlen], by rw [hlen]; exact hl, hm, fun hpos => ?_⟩⟩, fun y hy => ?_⟩
    · rw [hlen] at hpos ⊢
      have hcell : ∀ j, j < len * 1 → w.cell? (a.add j) = (((List.range len).map f).map (Value.int k))[j]? := fun j hj => by
        have hi : j < len := by omega
        have h1 := (hb j hi).choose_spec.1
        rw [← hf j hi] at h1
        rw [h1]
        simp [hi]
      have h0 := hcell 0 (by omega)
      have hne : (((List.range len).map f).map (Value.int k))[0]? ≠ none := by
        rw [Ne, List.getElem?_eq_none_iff, List.length_map, hlen]
        omega
      obtain ⟨u, hu⟩ := Option.ne_none_iff_exists'.1 hne
      rw [hu] at h0
      have hspot : a.spot = none := spotNone h0
      obtain ⟨b, off, sp⟩ := a
      simp only at hspot
      subst hspot
      have := World.block_lt_of_cell? w _ h0
      rw [Addr.add_lit] at this
      refine ⟨rfl, this, by simp, fun j hj => ?_⟩
      have h3 := hcell j hj
      rw [Addr.add_lit] at h3
      exact h3
    · obtain ⟨i, hi, rfl⟩ := List.mem_map.1 hy
      have hi' := List.mem_range.1 hi
      rw [hf i hi']
      exact (hb i hi').choose_spec.2
end

end Go.Proofs.YtogmdfjgedekgaaDoor
