/-
  The text of rising numbers says just those: pillarboxlaw21.SeqBack returns true for every input, and turns nothing. The card: the listed tables as the program's text lays them.
-/
import Derived.Test.YtogmdfjgedekgaaDoorSeqBack
import Derived.Test.YtogmdfjgedekgaaDoorRngIn
import Derived.Test.YtogmdfjgedekgaaDoorTens
import Derived.Test.YtogmdfjgedekgaaDoorLawC
namespace Go.Proofs.YtogmdfjgedekgaaDoor
open Go.RowKit Go.ChangeShapes Go.WideShapes Go.ChangeAt

set_option maxRecDepth 100000 in
theorem seqBack_lifted (os : Os) (started : os.Started) (H : Type) (enc : TypeId × Value → H) :
    ReturnsInHanded {} Tryd.checked os 8 .any (fun w args => (Rows.seqBackSpec.pre enc Tryd.prog Tryd.f8 [] false w args ∧ laidMetH Tryd.prog Rows.seqBackRow.laid w) ∧ sizedMet enc Tryd.prog Tryd.f8 (OpenSpec.ofChange Rows.seqBackSpec) false w args)
      (Rows.seqBackSpec.post enc Tryd.prog Tryd.f8 false true false false) := by
  refine lifted_listed (C := Tryd.checked) (X := fun w => laidMetH Tryd.prog Rows.seqBackRow.laid w) (v0 := #[.slice none 0 0]) (fun _ _ hh h => h.of_heap hh) Try.own started (by kernel_rfl) Tryd.func8
    (World.laidAll Tryd.prog os Rows.seqBackRow.laid) 8 (World.laidAll_os _ _ _) (World.shaped_of_ZipB (by kernel_rfl) (by kernel_rfl)) (by kernel_rfl) (by kernel_rfl) (by kernel_rfl)
    (by rw [MakeChecks.laidMetH_plain _ _ _ (by kernel_rfl)]; exact laidMet_laidAll _ (by kernel_rfl) (by kernel_rfl)) ?_
  intro W base args ds gs before hval0 hW hsz0 hL hsh
  have hsz : (DataW.weightsEach Tryd.prog (Tryd.f8.params.toList ++ Rows.seqBackSpec.plain.varTypes Tryd.prog) (ds ++ gs)).all (· ≤ reachBytes) = true := hsz0
  have hval : ∀ (j : Nat) t v, Tryd.f8.params[j]? = some t → args[j]? = some v → Value.okWide Tryd.prog W .any base t v := hval0
  have hm := mx_of_shaped hsh
  have hW' := hW
  obtain ⟨p, q, hA0, hV, rfl, _, _⟩ := hW
  have hA : DataW.TrodAll enc Tryd.prog W 0 (fun _ => true) true Tryd.f8.params.toList args.toList ds p := hA0
  rw [Tryd.params8] at hA hval hsz
  obtain ⟨v0, d0, rfl, rfl, h0⟩ := trodAll_one hA
  obtain ⟨rfl, rfl⟩ := trodVars_none hV
  rw [MakeChecks.laidMetH_plain _ _ _ (by kernel_rfl)] at hL
  have ht : Tens W := tens_of_laid hL (by simp [Rows.seqBackRow])
  obtain ⟨fuel0, hf0⟩ := h0
  have hc0 : ∃ A n cap, v0 = .slice A n cap := okWide_slice Tryd.underlying52 (hval 0 52 v0 rfl rfl)
  obtain ⟨A0, n0, cap0, rfl⟩ := hc0
  obtain ⟨gs, hr0, hb0⟩ := nums_in Tryd.underlying52 Tryd.underlying5 (by kernel_rfl) hf0
  have hb : ∀ g ∈ gs, 0 ≤ g ∧ g ≤ 255 := fun g hg => by
    obtain ⟨k, rfl, hk⟩ := wf_u8' (hb0 g hg)
    omega
  clear hA0 hval0 hsz0
  refine (seqBack_any _ gs W hr0 hb hm ht).mono fun e W' ⟨he, hb⟩ => ⟨_, he, ?_⟩
  exact law_post Try.laidOut (by kernel_rfl) rfl rfl Tryd.underlying4 hW' rfl hb

theorem seqBack_said : Rows.SeqBackSaid :=
  OpenClaim.holds_of_wide 8 Tryd.f8 rfl rfl rfl rfl rfl rfl rfl ⟨rfl, rfl, rfl, rfl, rfl⟩ rfl rfl rfl rfl rfl (by kernel_rfl) Tryd.func8 (by kernel_rfl)
    (of_decide_eq_true (by kernel_rfl)) (by unfold Func.isWrapper; rw [if_neg (of_decide_eq_false (by kernel_rfl))]; exact ⟨rfl, rfl⟩)
    (fun os started H enc _ => seqBack_lifted os started H enc)

theorem seqBack_holds : Rows.SeqBackCardSaid :=
  Claim7.holds_tied_plain_at .later [] [.data, .data, .data, .data, .pinned] true _ false seqBack_said (fun _ h => by cases h) (by kernel_rfl) (fun _ h => by cases h) seqBack_row_tie rfl ⟨rfl, rfl⟩ (by kernel_rfl) rfl
    (fun f fn hf hfn => by
      obtain rfl : f = 8 := Option.some.inj ((show Tryd.prog.funcNamed "pillarbox/pillarboxlaw21.SeqBack" = some 8 by kernel_rfl).symm.trans hf) |>.symm
      obtain rfl : fn = Tryd.f8 := (Option.some.inj (Tryd.func8.symm.trans hfn)).symm
      exact ⟨by kernel_rfl, fun j t ht => by
        rw [Tryd.params8] at ht
        have hm : t ∈ [52] := by simpa using Array.mem_of_getElem? ht
        have hall : ([52].all fun u => !Tryd.prog.wantsStandIn u) = true := by kernel_rfl
        exact (show Tryd.prog.wantsStandIn t = false by simpa using List.all_eq_true.1 hall t hm)⟩)
    (by kernel_rfl)

#print axioms seqBack_holds

end Go.Proofs.YtogmdfjgedekgaaDoor
