/-
  What is asked of one kind does not hang on entries of others; a copy tells the same: pillarboxlaw17.LogKinds returns true for every input, and turns nothing.
-/
import Derived.Test.YtkgpflobbmagaaaLogKinds
import Derived.Test.YtkgpflobbmagaaaStepsIn
namespace Go.Proofs.Ytkgpflobbmagaaa
open Go.ChangeShapes Go.WideShapes Go.ChangeAt Go.RowKit

theorem Try.cellsStep : Try.prog.cellsOf 39 = 2 := by kernel_rfl
theorem Try.cellsU8 : Try.prog.cellsOf 5 = 1 := by kernel_rfl

set_option maxRecDepth 100000 in
theorem logKinds_lifted (os : Os) (started : os.Started) (H : Type) (enc : TypeId × Value → H) :
    ReturnsInHanded {} Try.checked os 9 .any (Rows.logKindsSpec.pre6 enc Try.prog Try.f9 Rows.logKindsRow.domain false) (Rows.logKindsSpec.post enc Try.prog Try.f9 false true false false) := by
  refine returnsInHanded_of_change_sized (C := Try.checked) Try.own started (by kernel_rfl) Try.func9
    (ChangeSpec.witness6 (enc := enc) (C := Try.checked) false ⟨#[], #[.slice none 0 0, .int .u8 0], []⟩ 8 (by kernel_rfl) (by kernel_rfl) (by kernel_rfl) (by kernel_rfl)) ?_
  intro W base args ds gs before hval0 hW _ _ _
  have hval : ∀ (j : Nat) t v, Try.f9.params[j]? = some t → args[j]? = some v → Value.okWide Try.prog W .any base t v := hval0
  have hW' := hW
  obtain ⟨p, q, hA0, hV, rfl, _, _⟩ := hW
  have hA : DataW.TrodAll enc Try.prog W 0 (fun _ => true) true Try.f9.params.toList args.toList ds p := hA0
  rw [Try.params9] at hA hval
  obtain ⟨v0, v1, d0, d1, p0, p1, rfl, rfl, rfl, h0, h1⟩ := trodAll_two hA
  obtain ⟨rfl, rfl⟩ := trodVars_none hV
  obtain ⟨A, n, cap, sp, rfl, hsp, hcell⟩ := steps_in Try.underlying31 Try.underlying39 Try.cellsStep (by rfl) (by rfl) Try.cellsU8 Try.cellsU8 Try.underlying5 Try.underlying5 (okWide_slice Try.underlying31 (hval 0 31 v0 rfl rfl)) h0
  obtain ⟨n1, rfl, rfl, rfl, w1⟩ := open_int Try.underlying5 (hval 1 5 v1 rfl rfl) h1
  obtain ⟨k1, rfl, l1⟩ := wf_u8' w1
  clear hA0 hval0
  refine (logKinds_any A n cap k1 sp hsp l1 W hcell).mono fun e W' ⟨he, hb⟩ => ⟨_, he, ?_⟩
  exact law_post Try.laidOut (by kernel_rfl) rfl rfl Try.underlying4 hW' rfl hb

theorem logKinds_holds : Rows.LogKindsSaid :=
  OpenClaim.holds_of_wide 9 Try.f9 rfl rfl rfl rfl rfl rfl rfl ⟨rfl, rfl, rfl, rfl, rfl⟩ rfl rfl rfl rfl rfl (by kernel_rfl) Try.func9 (by kernel_rfl)
    (of_decide_eq_true (by kernel_rfl)) (by unfold Func.isWrapper; rw [if_neg (of_decide_eq_false (by kernel_rfl))]; exact ⟨rfl, rfl⟩)
    (fun os started H enc _ => logKinds_lifted os started H enc)

#print axioms logKinds_holds

end Go.Proofs.Ytkgpflobbmagaaa
