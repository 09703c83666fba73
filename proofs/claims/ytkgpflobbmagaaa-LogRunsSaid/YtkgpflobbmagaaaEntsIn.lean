/-
  Slices of structs of four whole numbers that came in, and slices of such slices.
-/
import Derived.Test.YtkgpflobbmagaaaStepsIn
import Derived.Test.YtkgpflobbmagaaaMem
import Derived.Test.YtkgpflobbmagaaaLogPlain
namespace Go.Proofs.Ytkgpflobbmagaaa
open Go.ChangeShapes Go.WideShapes Go.ChangeAt Go.RowKit

section
variable {H : Type} {enc : TypeId × Value → H} {P : Program} {w : World} {base : Nat} {spare : Nat → Bool} {held : Bool}

/-- One struct of four ints: its cells. -/
theorem four_in {e : TypeId} {f0 f1 f2 f3 : Field} {n : Nat} {cs : List Value} {x : DataW H × List MemPlace} (he : P.underlying e = some (.struct #[f0, f1, f2, f3])) (hlen : cs.length = 4)
    (o0 : f0.offset = 0) (o1 : f1.offset = 1) (o2 : f2.offset = 2) (o3 : f3.offset = 3) (c0 : P.cellsOf f0.type = 1) (c1 : P.cellsOf f1.type = 1) (c2 : P.cellsOf f2.type = 1) (c3 : P.cellsOf f3.type = 1)
    (u0 : P.underlying f0.type = some (.int .i64)) (u1 : P.underlying f1.type = some (.int .i64)) (u2 : P.underlying f2.type = some (.int .i64)) (u3 : P.underlying f3.type = some (.int .i64))
    (h : DataW.trod enc P w base spare held n e cs = some x) : ∃ y : E4, cs = encE y := by
  obtain ⟨xs, k, hk, hxy, _, hxl, hf⟩ := DataW.trod_struct he h
  match cs, hlen with
  | [v0, v1, v2, v3], _ =>
    have g0 := hf 0 f0 rfl
    have g1 := hf 1 f1 rfl
    have g2 := hf 2 f2 rfl
    have g3 := hf 3 f3 rfl
    match xs, hxl with
    | [y0, y1, y2, y3], _ =>
      simp [o0, o1, o2, o3, c0, c1, c2, c3] at g0 g1 g2 g3
      obtain ⟨a0, e0, _, _⟩ := DataW.trod_int u0 g0
      obtain ⟨a1, e1, _, _⟩ := DataW.trod_int u1 g1
      obtain ⟨a2, e2, _, _⟩ := DataW.trod_int u2 g2
      obtain ⟨a3, e3, _, _⟩ := DataW.trod_int u3 g3
      simp at e0 e1 e2 e3
      exact ⟨⟨a0, a1, a2, a3⟩, by simp [encE, e0, e1, e2, e3]⟩

/-- A slice of such structs: it reads so. -/
theorem ents_in {t e : TypeId} {f0 f1 f2 f3 : Field} {fuel : Nat} {v : Value} {x : DataW H × List MemPlace} (ht : P.underlying t = some (.slice e)) (he : P.underlying e = some (.struct #[f0, f1, f2, f3])) (ce : P.cellsOf e = 4)
    (o0 : f0.offset = 0) (o1 : f1.offset = 1) (o2 : f2.offset = 2) (o3 : f3.offset = 3) (c0 : P.cellsOf f0.type = 1) (c1 : P.cellsOf f1.type = 1) (c2 : P.cellsOf f2.type = 1) (c3 : P.cellsOf f3.type = 1)
    (u0 : P.underlying f0.type = some (.int .i64)) (u1 : P.underlying f1.type = some (.int .i64)) (u2 : P.underlying f2.type = some (.int .i64)) (u3 : P.underlying f3.type = some (.int .i64))
    (h : DataW.trod enc P w base spare held fuel t [v] = some x) : ∃ (l : List E4), RdS w [] 4 v l.length (flatE l) := by
  rcases Deep.open_slice ht h with ⟨hcs, _⟩ | ⟨a, len, cap, m, n, D, Pl, hcs, _, hl, hm, hmm, _, hx⟩
  · simp at hcs
    subst hcs
    exact ⟨[], by simp [flatE], .inl ⟨rfl, rfl⟩⟩
  · simp at hcs
    subst hcs
    have hle : len ≤ m := by
      rw [hmm]
      split <;> omega
    have hb : ∀ i, i < len → ∃ y : E4, ∀ j, j < 4 → w.cell? (a.add (i * 4 + j)) = (encE y)[j]? := fun i hi => by
      obtain ⟨cs, h1, h2⟩ := hx i (by omega)
      rw [ce] at h1
      obtain ⟨_, hlen, hcell⟩ := World.cells?_some h1
      obtain ⟨y, rfl⟩ := four_in he hlen o0 o1 o2 o3 c0 c1 c2 c3 u0 u1 u2 u3 h2
      refine ⟨y, fun j hj => ?_⟩
      have h3 := hcell j hj
      rw [Deep.add_add] at h3
      exact h3
    let f : Nat → E4 := fun i => if hi : i < len then (hb i hi).choose else default
    have hlen : ((List.range len).map f).length = len := by simp
    refine ⟨(List.range len).map f, by rw [flatE_length], .inr ⟨a, cap, by rw [hlen], by rw [hlen]; exact hl, hm, fun hpos => ?_⟩⟩
    rw [hlen] at hpos ⊢
    have hcell : ∀ j, j < len * 4 → w.cell? (a.add j) = (flatE ((List.range len).map f))[j]? := fun j hj => by
      have hi : j / 4 < len := by omega
      have h1 := (hb (j / 4) hi).choose_spec (j % 4) (by omega)
      have h2 := flatE_get ((List.range len).map f) (j / 4) (j % 4) (by rw [hlen]; exact hi) (by omega)
      rw [show j / 4 * 4 + j % 4 = j from by omega] at h1 h2
      rw [h1, h2]
      simp only [List.getElem_map, List.getElem_range]
      show _ = (encE (f (j / 4)))[j % 4]?
      simp only [f, dif_pos hi]
    have h0 := hcell 0 (by omega)
    have hne : (flatE ((List.range len).map f))[0]? ≠ none := by
      rw [Ne, List.getElem?_eq_none_iff, flatE_length, hlen]
      omega
    obtain ⟨u, hu⟩ := Option.ne_none_iff_exists'.1 hne
    rw [hu] at h0
    have hspot : a.spot = none := spot_none h0
    obtain ⟨b, off, sp⟩ := a
    simp only at hspot
    subst hspot
    have := World.block_lt_of_cell? w _ h0
    rw [Addr.add_lit] at this
    refine ⟨rfl, this, by simp, fun j hj => ?_⟩
    have h3 := hcell j hj
    rw [Addr.add_lit] at h3
    exact h3

/-- A slice of such slices. -/
theorem rows_in {tt t e : TypeId} {f0 f1 f2 f3 : Field} {v : Value} {d : DataW H} {ps : List MemPlace} (htt : P.underlying tt = some (.slice t)) (ct : P.cellsOf t = 1) (ht : P.underlying t = some (.slice e)) (he : P.underlying e = some (.struct #[f0, f1, f2, f3])) (ce : P.cellsOf e = 4)
    (o0 : f0.offset = 0) (o1 : f1.offset = 1) (o2 : f2.offset = 2) (o3 : f3.offset = 3) (c0 : P.cellsOf f0.type = 1) (c1 : P.cellsOf f1.type = 1) (c2 : P.cellsOf f2.type = 1) (c3 : P.cellsOf f3.type = 1)
    (u0 : P.underlying f0.type = some (.int .i64)) (u1 : P.underlying f1.type = some (.int .i64)) (u2 : P.underlying f2.type = some (.int .i64)) (u3 : P.underlying f3.type = some (.int .i64))
    (hv : ∃ A n cap, v = .slice A n cap) (h : DataW.Trod enc P w base spare held tt v d ps) :
    ∃ (A : Option Addr) (n cap : Nat) (rows : Nat → List E4) (vs : Nat → Value), v = .slice A n cap ∧
      (0 < n → ∃ b off, A = some ⟨b, off, none⟩ ∧ b < w.heap.size ∧ ∀ i, i < n → w.cell? ⟨b, off + i, none⟩ = some (vs i) ∧ RdS w [] 4 (vs i) (rows i).length (flatE (rows i))) := by
  obtain ⟨A, n, cap, rfl⟩ := hv
  obtain ⟨fuel, hf⟩ := h
  rcases Deep.open_slice1 htt ct hf with ⟨hcs, _⟩ | ⟨a, len, cap', m, k, V, D, Pl, hcs, _, hl, hm, hmm, _, hx⟩
  · simp [Value.cells] at hcs
    obtain ⟨rfl, rfl, rfl⟩ := hcs
    exact ⟨none, 0, 0, fun _ => [], fun _ => .slice none 0 0, rfl, fun h => absurd h (by omega)⟩
  · simp [Value.cells] at hcs
    obtain ⟨rfl, rfl, rfl⟩ := hcs
    have hle : n ≤ m := by
      rw [hmm]
      split <;> omega
    have hb : ∀ i, i < n → ∃ l : List E4, RdS w [] 4 (V i) l.length (flatE l) := fun i hi => ents_in ht he ce o0 o1 o2 o3 c0 c1 c2 c3 u0 u1 u2 u3 (hx i (by omega)).2
    refine ⟨some a, n, cap, fun i => if hi : i < n then (hb i hi).choose else [], V, rfl, fun hn => ?_⟩
    have hspot : a.spot = none := spot_none (hx 0 (by omega)).1
    obtain ⟨b, off, sp⟩ := a
    simp only at hspot
    subst hspot
    refine ⟨b, off, rfl, ?_, fun i hi => ?_⟩
    · have h0 := (hx 0 (by omega)).1
      have := World.block_lt_of_cell? w _ h0
      rw [Addr.add_lit] at this
      exact this
    · have h1 := (hx i (by omega)).1
      rw [Addr.add_lit] at h1
      refine ⟨h1, ?_⟩
      simp only [dif_pos hi]
      exact (hb i hi).choose_spec
end

end Go.Proofs.Ytkgpflobbmagaaa
