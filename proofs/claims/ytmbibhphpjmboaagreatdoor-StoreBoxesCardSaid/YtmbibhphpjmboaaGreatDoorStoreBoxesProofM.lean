/-
  A mailbox with another one in it, or with an email, stays; the first one stays, and keeps its name: pillarboxlaw18.StoreBoxes returns true for every input, and turns nothing. The card: the listed tables as the program's text lays them.
-/
import Derived.Test.YtmbibhphpjmboaaGreatDoorBoxesLawM
import Derived.Test.YtmbibhphpjmboaaGreatDoorGH
import Derived.Test.YtmbibhphpjmboaaGreatDoorLawSM
namespace Go.Proofs.YtmbibhphpjmboaaGreatDoor
open Go.RowKit Go.ChangeShapes Go.WideShapes Go.ChangeAt
open Go.ChangeMaps (open_string)

set_option maxRecDepth 100000 in
theorem storeBoxes_lifted (os : Os) (started : os.Started) (H : Type) (enc : TypeId × Value → H) :
    ReturnsInHanded {} Tryz.checked os 7 .any (fun w args => (Rows.storeBoxesSpec.pre enc Tryz.prog Tryz.f7 [] false w args ∧ laidMetH Tryz.prog Rows.storeBoxesRow.laid w) ∧ sizedMet enc Tryz.prog Tryz.f7 (OpenSpec.ofChange Rows.storeBoxesSpec) false w args)
      (Rows.storeBoxesSpec.post enc Tryz.prog Tryz.f7 false true false false) := by
  refine lifted_listed (C := Tryz.checked) (X := fun w => laidMetH Tryz.prog Rows.storeBoxesRow.laid w) (v0 := #[.int .u8 0]) (fun _ _ hh h => h.of_heap hh) Try.own started (by kernel_rfl) Tryz.func7
    (World.laidAll Tryz.prog os Rows.storeBoxesRow.laid) 8 (World.laidAll_os _ _ _) (World.shaped_of_ZipB (by kernel_rfl) (by kernel_rfl)) (by kernel_rfl) (by kernel_rfl) (by kernel_rfl)
    (by rw [MakeChecks.laidMetH_plain _ _ _ (by kernel_rfl)]; exact laidMet_laidAll _ (by kernel_rfl) (by kernel_rfl)) ?_
  intro W base args ds gs before hval0 hW hsz0 hL hsh
  have hsz : (DataW.weightsEach Tryz.prog (Tryz.f7.params.toList ++ Rows.storeBoxesSpec.plain.varTypes Tryz.prog) (ds ++ gs)).all (· ≤ reachBytes) = true := hsz0
  have hval : ∀ (j : Nat) t v, Tryz.f7.params[j]? = some t → args[j]? = some v → Value.okWide Tryz.prog W .any base t v := hval0
  have hW' := hW
  obtain ⟨p, q, hA0, hV, rfl, _, _⟩ := hW
  have hA : DataW.TrodAll enc Tryz.prog W 0 (fun _ => true) true Tryz.f7.params.toList args.toList ds p := hA0
  rw [Tryz.params7] at hA hval hsz
  obtain ⟨v0, d0, rfl, rfl, h0⟩ := trodAll_one hA
  obtain ⟨rfl, rfl⟩ := trodVars_none hV
  obtain ⟨n0, rfl, rfl, rfl, w0⟩ := open_int Tryz.underlying5 (hval 0 5 v0 rfl rfl) h0
  obtain ⟨k0, rfl, l0⟩ := wf_u8' w0
  clear hA0 hval0 hsz0
  refine (storeBoxes_any append_said k0 l0 W).mono fun e W' ⟨he, hb⟩ => ⟨_, he, ?_⟩
  exact law_post Try.laidOut (by kernel_rfl) rfl rfl Tryz.underlying4 hW' rfl hb

theorem storeBoxes_named : Tryz.prog.funcNamed Rows.storeBoxesRow.func = some 7 := by kernel_rfl
theorem storeBoxes_named2 : Tryz.prog.funcNamed "pillarbox/pillarboxlaw18.StoreBoxes" = some 7 := storeBoxes_named
theorem storeBoxes_facts : joinedFacts Tryz.prog 7 Tryz.f7 Rows.storeBoxesSpec Rows.storeBoxesRow = true := by kernel_rfl
theorem storeBoxes_inst : Tryz.f7.isInstance Tryz.prog Rows.storeBoxesRow.origin Rows.storeBoxesRow.targs := of_decide_eq_true (by kernel_rfl)
theorem storeBoxes_wrap : Tryz.f7.isWrapper Tryz.prog Rows.storeBoxesRow.wrapper Rows.storeBoxesRow.mainSum := by unfold Func.isWrapper; rw [if_neg (of_decide_eq_false (by kernel_rfl))]; exact ⟨rfl, rfl⟩
theorem storeBoxes_wf : Rows.storeBoxesRow.wfByText (OpenSpec.ofChange Rows.storeBoxesSpec) = true := by kernel_rfl
theorem storeBoxes_main : Tryz.prog.mainIs = some (Rows.storeBoxesCard.stood.harness.1, Rows.storeBoxesCard.stood.harness.2.toList) := by kernel_rfl
theorem storeBoxes_looks : false = Tryz.prog.looks [] := by kernel_rfl
theorem storeBoxes_stand : ([5].all fun u => !Tryz.prog.wantsStandIn u) = true := by kernel_rfl
theorem storeBoxes_goes : false = Rows.storeBoxesRow.goesBy Tryz.prog := by kernel_rfl

theorem storeBoxes_said : Rows.StoreBoxesSaid :=
  OpenClaim.holds_of_wide 7 Tryz.f7 rfl rfl rfl rfl rfl rfl rfl ⟨rfl, rfl, rfl, rfl, rfl⟩ rfl rfl rfl rfl rfl storeBoxes_named Tryz.func7 storeBoxes_facts
    storeBoxes_inst storeBoxes_wrap
    (fun os started H enc _ => storeBoxes_lifted os started H enc)

theorem storeBoxes_holds : Rows.StoreBoxesCardSaid :=
  Claim7.holds_tied_plain_at .later [] [.data, .pinned] true _ false storeBoxes_said (fun _ h => by cases h) storeBoxes_wf (fun _ h => by cases h) storeBoxes_row_tie rfl ⟨rfl, rfl⟩ storeBoxes_main rfl
    (fun f fn hf hfn => by
      obtain rfl : f = 7 := Option.some.inj (storeBoxes_named2.symm.trans hf) |>.symm
      obtain rfl : fn = Tryz.f7 := (Option.some.inj (Tryz.func7.symm.trans hfn)).symm
      exact ⟨storeBoxes_looks, fun j t ht => by
        rw [Tryz.params7] at ht
        have hm : t ∈ [5] := by simpa using Array.mem_of_getElem? ht
        exact (show Tryz.prog.wantsStandIn t = false by simpa using List.all_eq_true.1 storeBoxes_stand t hm)⟩)
    storeBoxes_goes

#print axioms storeBoxes_holds

end Go.Proofs.YtmbibhphpjmboaaGreatDoor
