/-
  Numbers that come in.
-/
import Derived.ProofKit
namespace Go.Proofs.YtnfabgbidkddhaaGreatDoor

theorem wf_u8' {n : Int} (h : (Lit.int .u8 n).wf = true) : ∃ k : Nat, n = k ∧ k ≤ 255 := by
  simp only [Lit.wf, Bool.and_eq_true, decide_eq_true_eq] at h
  have h1 : (0 : Int) ≤ n := h.1
  have h2 : n ≤ 255 := h.2
  exact ⟨n.toNat, by omega, by omega⟩

end Go.Proofs.YtnfabgbidkddhaaGreatDoor
