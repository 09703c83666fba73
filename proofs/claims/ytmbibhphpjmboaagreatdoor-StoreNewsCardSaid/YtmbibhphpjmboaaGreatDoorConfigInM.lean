/-
  A config that came in.
-/
import Derived.Test.YtmbibhphpjmboaaGreatDoorLawSM
import Derived.ProofKit
import Derived.Deep.SlicePairs
namespace Go.Proofs.YtmbibhphpjmboaaGreatDoor
open Go.ChangeShapes Go.WideShapes Go.ChangeAt Go.RowKit

section
variable {H : Type} {enc : TypeId × Value → H} {P : Program} {w : World} {base : Nat} {spare : Nat → Bool} {held : Bool}

theorem nine_in {e : TypeId} {f0 f1 f2 f3 f4 f5 f6 f7 f8 : Field} {n : Nat} {cs : List Value} {x : DataW H × List MemPlace} (he : P.underlying e = some (.struct #[f0, f1, f2, f3, f4, f5, f6, f7, f8])) (hlen : cs.length = 9)
    (o : (f0.offset = 0 ∧ f1.offset = 1 ∧ f2.offset = 2 ∧ f3.offset = 3 ∧ f4.offset = 4 ∧ f5.offset = 5 ∧ f6.offset = 6 ∧ f7.offset = 7 ∧ f8.offset = 8) ∧ (P.cellsOf f0.type = 1 ∧ P.cellsOf f1.type = 1 ∧ P.cellsOf f2.type = 1 ∧ P.cellsOf f3.type = 1 ∧ P.cellsOf f4.type = 1 ∧ P.cellsOf f5.type = 1 ∧ P.cellsOf f6.type = 1 ∧ P.cellsOf f7.type = 1 ∧ P.cellsOf f8.type = 1))
    (u0 : P.underlying f0.type = some .string) (u1 : P.underlying f1.type = some .string) (u2 : P.underlying f2.type = some (.int .i64)) (u3 : P.underlying f3.type = some (.int .i64)) (u4 : P.underlying f4.type = some (.int .i64)) (u5 : P.underlying f5.type = some (.int .i64)) (u6 : P.underlying f6.type = some (.int .i64)) (u7 : P.underlying f7.type = some (.int .i64)) (u8 : P.underlying f8.type = some (.int .i64))
    (h : DataW.trod enc P w base spare held n e cs = some x) : ∃ (u p : List UInt8) (m1 m2 m3 m4 m5 m6 m7 : Int), cs = [.string ⟨u.toArray⟩, .string ⟨p.toArray⟩, .int .i64 m1, .int .i64 m2, .int .i64 m3, .int .i64 m4, .int .i64 m5, .int .i64 m6, .int .i64 m7] := by
  obtain ⟨⟨o0, o1, o2, o3, o4, o5, o6, o7, o8⟩, c0, c1, c2, c3, c4, c5, c6, c7, c8⟩ := o
  obtain ⟨xs, k, hk, hxy, _, hxl, hf⟩ := DataW.trod_struct he h
  match cs, hlen with
  | [v0, v1, v2, v3, v4, v5, v6, v7, v8], _ =>
    have g0 := hf 0 f0 rfl
    have g1 := hf 1 f1 rfl
    have g2 := hf 2 f2 rfl
    have g3 := hf 3 f3 rfl
    have g4 := hf 4 f4 rfl
    have g5 := hf 5 f5 rfl
    have g6 := hf 6 f6 rfl
    have g7 := hf 7 f7 rfl
    have g8 := hf 8 f8 rfl
    match xs, hxl with
    | [y0, y1, y2, y3, y4, y5, y6, y7, y8], _ =>
      simp [o0, o1, o2, o3, o4, o5, o6, o7, o8, c0, c1, c2, c3, c4, c5, c6, c7, c8] at g0 g1 g2 g3 g4 g5 g6 g7 g8
      obtain ⟨b0, e0, _⟩ := DataW.trod_string u0 g0
      obtain ⟨b1, e1, _⟩ := DataW.trod_string u1 g1
      obtain ⟨a2, e2, _, _⟩ := DataW.trod_int u2 g2
      obtain ⟨a3, e3, _, _⟩ := DataW.trod_int u3 g3
      obtain ⟨a4, e4, _, _⟩ := DataW.trod_int u4 g4
      obtain ⟨a5, e5, _, _⟩ := DataW.trod_int u5 g5
      obtain ⟨a6, e6, _, _⟩ := DataW.trod_int u6 g6
      obtain ⟨a7, e7, _, _⟩ := DataW.trod_int u7 g7
      obtain ⟨a8, e8, _, _⟩ := DataW.trod_int u8 g8
      simp at e0 e1 e2 e3 e4 e5 e6 e7 e8
      exact ⟨b0.data.toList, b1.data.toList, a2, a3, a4, a5, a6, a7, a8, by simp [e0, e1, e2, e3, e4, e5, e6, e7, e8]⟩
end
theorem cfg_in {H : Type} {enc : TypeId × Value → H} {w : World} {base : Nat} {spare : Nat → Bool} {held : Bool} {fuel : Nat} {cs : Array Value} {x : DataW H × List MemPlace} (hs : cs.size = Tryz.prog.cellsOf 29) (h : DataW.trod enc Tryz.prog w base spare held fuel 29 cs.toList = some x) :
    ∃ (u p : List UInt8) (m1 m2 m3 m4 m5 m6 m7 : Int), cs = #[.string ⟨u.toArray⟩, .string ⟨p.toArray⟩, .int .i64 m1, .int .i64 m2, .int .i64 m3, .int .i64 m4, .int .i64 m5, .int .i64 m6, .int .i64 m7] := by
  have h9 : Tryz.prog.cellsOf 29 = 9 := by kernel_rfl
  obtain ⟨u, p, m1, m2, m3, m4, m5, m6, m7, hc⟩ := nine_in Tryz.underlying29 (by rw [Array.length_toList, hs, h9]) ⟨⟨rfl, rfl, rfl, rfl, rfl, rfl, rfl, rfl, rfl⟩, by kernel_rfl, by kernel_rfl, by kernel_rfl, by kernel_rfl, by kernel_rfl, by kernel_rfl, by kernel_rfl, by kernel_rfl, by kernel_rfl⟩ Tryz.underlying9 Tryz.underlying9 Tryz.underlying3 Tryz.underlying3 Tryz.underlying3 Tryz.underlying3 Tryz.underlying3 Tryz.underlying3 Tryz.underlying3 h
  exact ⟨u, p, m1, m2, m3, m4, m5, m6, m7, by rw [← Array.toArray_toList (xs := cs), hc]⟩

end Go.Proofs.YtmbibhphpjmboaaGreatDoor
