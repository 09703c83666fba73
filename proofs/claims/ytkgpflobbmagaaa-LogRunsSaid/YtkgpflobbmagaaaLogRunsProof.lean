/-
  Whatever entries come, and are asked for, a log answers, and holds, what the document says: pillarboxlaw17.LogRuns returns true for every input, and turns nothing.
-/
import Derived.Test.YtkgpflobbmagaaaLogRuns2
import Derived.Test.YtkgpflobbmagaaaEntsIn
namespace Go.Proofs.Ytkgpflobbmagaaa
open Go.ChangeShapes Go.WideShapes Go.ChangeAt Go.RowKit

theorem Try.cellsEntry : Try.prog.cellsOf 42 = 4 := by kernel_rfl
theorem Try.cellsAsk : Try.prog.cellsOf 63 = 4 := by kernel_rfl
theorem Try.cellsEnts : Try.prog.cellsOf 43 = 1 := by kernel_rfl
theorem Try.cellsInt : Try.prog.cellsOf 3 = 1 := by kernel_rfl
theorem wf_i64' {n : Int} (h : (Lit.int .i64 n).wf = true) : -9223372036854775808 ≤ n ∧ n ≤ 9223372036854775807 := by
  simp only [Lit.wf, Bool.and_eq_true, decide_eq_true_eq] at h
  exact ⟨h.1, h.2⟩

set_option maxRecDepth 100000 in
theorem logRuns_lifted (os : Os) (started : os.Started) (H : Type) (enc : TypeId × Value → H) :
    ReturnsInHanded {} Try.checked os 7 .any (Rows.logRunsSpec.pre6 enc Try.prog Try.f7 Rows.logRunsRow.domain false) (Rows.logRunsSpec.post enc Try.prog Try.f7 false true false false) := by
  refine returnsInHanded_of_change_sized (C := Try.checked) Try.own started (by kernel_rfl) Try.func7
    (ChangeSpec.witness6 (enc := enc) (C := Try.checked) false ⟨#[], #[.int .i64 0, .slice none 0 0, .slice none 0 0], []⟩ 8 (by kernel_rfl) (by kernel_rfl) (by kernel_rfl) (by kernel_rfl)) ?_
  intro W base args ds gs before hval0 hW _ _ _
  have hval : ∀ (j : Nat) t v, Try.f7.params[j]? = some t → args[j]? = some v → Value.okWide Try.prog W .any base t v := hval0
  have hW' := hW
  obtain ⟨p, q, hA0, hV, rfl, _, _⟩ := hW
  have hA : DataW.TrodAll enc Try.prog W 0 (fun _ => true) true Try.f7.params.toList args.toList ds p := hA0
  rw [Try.params7] at hA hval
  obtain ⟨v0, v1, v2, d0, d1, d2, p0, p1, p2, rfl, rfl, rfl, h0, h1, h2⟩ := trodAll_three hA
  obtain ⟨rfl, rfl⟩ := trodVars_none hV
  obtain ⟨n0, rfl, rfl, rfl, w0⟩ := open_int Try.underlying3 (hval 0 3 v0 rfl rfl) h0
  obtain ⟨A, n, cap, rows, vs, rfl, hcell⟩ := rows_in Try.underlying56 Try.cellsEnts Try.underlying43 Try.underlying42 Try.cellsEntry (by rfl) (by rfl) (by rfl) (by rfl) Try.cellsInt Try.cellsInt Try.cellsInt Try.cellsInt Try.underlying3 Try.underlying3 Try.underlying3 Try.underlying3 (okWide_slice Try.underlying56 (hval 1 56 v1 rfl rfl)) h1
  obtain ⟨B, m, capB, rfl⟩ := okWide_slice Try.underlying57 (hval 2 57 v2 rfl rfl)
  obtain ⟨fuel, hf⟩ := h2
  obtain ⟨asks, hasks⟩ := ents_in Try.underlying57 Try.underlying63 Try.cellsAsk (by rfl) (by rfl) (by rfl) (by rfl) Try.cellsInt Try.cellsInt Try.cellsInt Try.cellsInt Try.underlying3 Try.underlying3 Try.underlying3 Try.underlying3 hf
  have hm : asks.length = m := by
    obtain ⟨A', c', hv, _⟩ := hasks.form
    injection hv with _ h _
    exact h.symm
  rw [hm] at hasks
  clear hA0 hval0
  refine (logRuns_any n0 (wf_i64' w0) A n cap rows vs B m capB asks W hm hcell hasks).mono fun e W' ⟨he, hb⟩ => ⟨_, he, ?_⟩
  exact law_post Try.laidOut (by kernel_rfl) rfl rfl Try.underlying4 hW' rfl hb

theorem logRuns_holds : Rows.LogRunsSaid :=
  OpenClaim.holds_of_wide 7 Try.f7 rfl rfl rfl rfl rfl rfl rfl ⟨rfl, rfl, rfl, rfl, rfl⟩ rfl rfl rfl rfl rfl (by kernel_rfl) Try.func7 (by kernel_rfl)
    (of_decide_eq_true (by kernel_rfl)) (by unfold Func.isWrapper; rw [if_neg (of_decide_eq_false (by kernel_rfl))]; exact ⟨rfl, rfl⟩)
    (fun os started H enc _ => logRuns_lifted os started H enc)

#print axioms logRuns_holds

end Go.Proofs.Ytkgpflobbmagaaa
