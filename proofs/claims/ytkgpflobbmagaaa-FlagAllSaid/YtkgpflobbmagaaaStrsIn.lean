/-
  A slice of texts that came in: it reads so.
-/
import Derived.Test.YtkgpflobbmagaaaStrs
import Derived.Test.YtkgpflobbmagaaaStepsIn
import Derived.Deep.Slices
namespace Go.Proofs.Ytkgpflobbmagaaa
open Go.ChangeShapes Go.WideShapes Go.ChangeAt Go.RowKit Go.Sort

section
variable {H : Type} {enc : TypeId × Value → H} {P : Program} {w : World} {base : Nat} {spare : Nat → Bool} {held : Bool}

theorem strs_in {t e : TypeId} {v : Value} {d : DataW H} {ps : List MemPlace} (ht : P.underlying t = some (.slice e)) (he : P.underlying e = some .string) (hc : P.cellsOf e = 1)
    (hv : ∃ A n cap, v = .slice A n cap) (h : DataW.Trod enc P w base spare held t v d ps) :
    ∃ (A : Option Addr) (n cap : Nat) (l : List (List UInt8)), v = .slice A n cap ∧ l.length = n ∧ RdS w [] 1 v n (l.map encStr) := by
  obtain ⟨A, n, cap, rfl⟩ := hv
  obtain ⟨fuel, hf⟩ := h
  rcases Deep.open_slice1 ht hc hf with ⟨hcs, _⟩ | ⟨a, len, cap', m, k, V, D, Pl, hcs, _, hl, hm, hmm, _, hx⟩
  · simp [Value.cells] at hcs
    obtain ⟨rfl, rfl, rfl⟩ := hcs
    exact ⟨none, 0, 0, [], rfl, rfl, by simp, .inl ⟨rfl, rfl⟩⟩
  · simp [Value.cells] at hcs
    obtain ⟨rfl, rfl, rfl⟩ := hcs
    have hle : n ≤ m := by
      rw [hmm]
      split <;> omega
    have hb : ∀ j, j < n → ∃ b : List UInt8, V j = encStr b := fun j hj => by
      obtain ⟨b, h1, _⟩ := DataW.trod_string he (hx j (by omega)).2
      simp at h1
      exact ⟨b.data.toList, h1⟩
    let f : Nat → List UInt8 := fun j => if hj : j < n then (hb j hj).choose else []
    have hlen : ((List.range n).map f).length = n := by simp
    refine ⟨some a, n, cap, (List.range n).map f, rfl, hlen, by simp, .inr ⟨a, cap, rfl, hl, hm, fun hpos => ?_⟩⟩
    have hspot : a.spot = none := spot_none (hx 0 (by omega)).1
    obtain ⟨b, off, sp⟩ := a
    simp only at hspot
    subst hspot
    have h0 := (hx 0 (by omega)).1
    have hlt := World.block_lt_of_cell? w _ h0
    rw [Addr.add_lit] at hlt
    refine ⟨rfl, hlt, by simp, fun j hj => ?_⟩
    have hj' : j < n := by omega
    have h1 := (hx j (by omega)).1
    rw [Addr.add_lit] at h1
    rw [h1]
    simp only [List.getElem?_map, List.getElem?_range hj', Option.map_some, f, dif_pos hj']
    exact congrArg some (hb j hj').choose_spec
end

end Go.Proofs.Ytkgpflobbmagaaa
