/-
  A slice of pairs of bytes that came in: its shape and its cells.
-/
import Derived.Test.YtkgpflobbmagaaaLaw
import Derived.Test.YtkgpflobbmagaaaNums
import Derived.Test.YtkgpflobbmagaaaProg
import Derived.Deep.SlicePairs
namespace Go.Proofs.Ytkgpflobbmagaaa
open Go.ChangeShapes Go.WideShapes Go.ChangeAt Go.RowKit

section
variable {H : Type} {enc : TypeId × Value → H} {P : Program} {w : World} {base : Nat} {spare : Nat → Bool} {held : Bool}

theorem spot_none {a : Addr} {v : Value} (h : w.cell? (a.add 0) = some v) : a.spot = none := by
  have : a.add 0 = a := by unfold Addr.add; simp
  rw [this] at h
  unfold World.cell? at h
  split at h
  · cases hs : a.spot with
    | none => rfl
    | some q => simp [hs] at h
  · cases h

theorem steps_in {t e : TypeId} {f0 f1 : Field} {v : Value} {d : DataW H} {ps : List MemPlace} (ht : P.underlying t = some (.slice e)) (he : P.underlying e = some (.struct #[f0, f1]))
    (ce : P.cellsOf e = 2) (o0 : f0.offset = 0) (o1 : f1.offset = 1) (c0 : P.cellsOf f0.type = 1) (c1 : P.cellsOf f1.type = 1) (u0 : P.underlying f0.type = some (.int .u8)) (u1 : P.underlying f1.type = some (.int .u8))
    (hv : ∃ A n cap, v = .slice A n cap) (h : DataW.Trod enc P w base spare held t v d ps) :
    ∃ (A : Option Addr) (n cap : Nat) (sp : Nat → Nat × Nat), v = .slice A n cap ∧ (∀ i, (sp i).1 ≤ 255 ∧ (sp i).2 ≤ 255) ∧
      (0 < n → ∃ b off, A = some ⟨b, off, none⟩ ∧ b < w.heap.size ∧ ∀ i, i < n → w.cell? ⟨b, off + i * 2, none⟩ = some (.int .u8 (sp i).1) ∧ w.cell? ⟨b, off + i * 2 + 1, none⟩ = some (.int .u8 (sp i).2)) := by
  obtain ⟨A, n, cap, rfl⟩ := hv
  obtain ⟨fuel, hf⟩ := h
  rcases Deep.open_slice_pairs ht he ce o0 o1 c0 c1 hf with ⟨hcs, _⟩ | ⟨a, len, cap', m, k, V0, V1, D0, D1, P0, P1, hcs, _, hl, hm, hmm, _, hx⟩
  · simp [Value.cells] at hcs
    obtain ⟨rfl, rfl, rfl⟩ := hcs
    exact ⟨none, 0, 0, fun _ => (0, 0), rfl, fun _ => ⟨Nat.zero_le _, Nat.zero_le _⟩, fun h => absurd h (by omega)⟩
  · simp [Value.cells] at hcs
    obtain ⟨rfl, rfl, rfl⟩ := hcs
    have hle : n ≤ m := by
      rw [hmm]
      split <;> omega
    have hb : ∀ j, j < n → ∃ q : Nat × Nat, V0 j = .int .u8 q.1 ∧ V1 j = .int .u8 q.2 ∧ q.1 ≤ 255 ∧ q.2 ≤ 255 := fun j hj => by
      obtain ⟨_, _, h0, h1⟩ := hx j (by omega)
      obtain ⟨x0, e0, _, w0⟩ := DataW.trod_int u0 h0
      obtain ⟨x1, e1, _, w1⟩ := DataW.trod_int u1 h1
      obtain ⟨k0, rfl, l0⟩ := wf_u8' w0
      obtain ⟨k1, rfl, l1⟩ := wf_u8' w1
      simp at e0 e1
      exact ⟨(k0, k1), e0, e1, l0, l1⟩
    refine ⟨some a, n, cap, fun j => if h : j < n then (hb j h).choose else (0, 0), rfl, fun i => ?_, fun hn => ?_⟩
    · by_cases h : i < n
      · simp only [dif_pos h]
        exact (hb i h).choose_spec.2.2
      · simp [h]
    · have hspot : a.spot = none := spot_none (by simpa using (hx 0 (by omega)).1)
      obtain ⟨b, off, sp⟩ := a
      simp only at hspot
      subst hspot
      refine ⟨b, off, rfl, ?_, fun j hj => ?_⟩
      · have h0 := (hx 0 (by omega)).1
        have := World.block_lt_of_cell? w _ h0
        rw [Addr.add_lit] at this
        exact this
      · obtain ⟨h1, h2, _, _⟩ := hx j (by omega)
        rw [Addr.add_lit] at h1 h2
        simp only [dif_pos hj]
        exact ⟨h1.trans (congrArg some (hb j hj).choose_spec.1), h2.trans (congrArg some (hb j hj).choose_spec.2.1)⟩
end

end Go.Proofs.Ytkgpflobbmagaaa
