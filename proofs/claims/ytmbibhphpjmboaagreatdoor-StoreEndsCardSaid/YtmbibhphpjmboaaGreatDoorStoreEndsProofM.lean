/-
  At its end the account takes nothing more in, and what turns nothing is still done: pillarboxlaw18.StoreEnds returns true for every input, and turns nothing. The card: the listed tables as the program's text lays them.
-/
import Derived.Test.YtmbibhphpjmboaaGreatDoorEndsWM
import Derived.Test.YtmbibhphpjmboaaGreatDoorGH
import Derived.Test.YtmbibhphpjmboaaGreatDoorLawSM
namespace Go.Proofs.YtmbibhphpjmboaaGreatDoor
open Go.RowKit Go.ChangeShapes Go.WideShapes Go.ChangeAt
open Go.ChangeMaps (open_string)

set_option maxRecDepth 100000 in
theorem storeEnds_lifted (os : Os) (started : os.Started) (H : Type) (enc : TypeId × Value → H) :
    ReturnsInHanded {} Tryz.checked os 8 .any (fun w args => (Rows.storeEndsSpec.pre enc Tryz.prog Tryz.f8 [] false w args ∧ laidMetH Tryz.prog Rows.storeEndsRow.laid w) ∧ sizedMet enc Tryz.prog Tryz.f8 (OpenSpec.ofChange Rows.storeEndsSpec) false w args)
      (Rows.storeEndsSpec.post enc Tryz.prog Tryz.f8 false true false false) := by
  refine lifted_listed (C := Tryz.checked) (X := fun w => laidMetH Tryz.prog Rows.storeEndsRow.laid w) (v0 := #[.int .u8 0, .int .u8 0]) (fun _ _ hh h => h.of_heap hh) Try.own started (by kernel_rfl) Tryz.func8
    (World.laidAll Tryz.prog os Rows.storeEndsRow.laid) 8 (World.laidAll_os _ _ _) (World.shaped_of_ZipB (by kernel_rfl) (by kernel_rfl)) (by kernel_rfl) (by kernel_rfl) (by kernel_rfl)
    (by rw [MakeChecks.laidMetH_plain _ _ _ (by kernel_rfl)]; exact laidMet_laidAll _ (by kernel_rfl) (by kernel_rfl)) ?_
  intro W base args ds gs before hval0 hW hsz0 hL hsh
  have hsz : (DataW.weightsEach Tryz.prog (Tryz.f8.params.toList ++ Rows.storeEndsSpec.plain.varTypes Tryz.prog) (ds ++ gs)).all (· ≤ reachBytes) = true := hsz0
  have hval : ∀ (j : Nat) t v, Tryz.f8.params[j]? = some t → args[j]? = some v → Value.okWide Tryz.prog W .any base t v := hval0
  have hW' := hW
  obtain ⟨p, q, hA0, hV, rfl, _, _⟩ := hW
  have hA : DataW.TrodAll enc Tryz.prog W 0 (fun _ => true) true Tryz.f8.params.toList args.toList ds p := hA0
  rw [Tryz.params8] at hA hval hsz
  obtain ⟨v0, v1, d0, d1, p0, p1, rfl, rfl, rfl, h0, h1⟩ := trodAll_two hA
  obtain ⟨rfl, rfl⟩ := trodVars_none hV
  obtain ⟨n0, rfl, rfl, rfl, w0⟩ := open_int Tryz.underlying5 (hval 0 5 v0 rfl rfl) h0
  obtain ⟨k0, rfl, l0⟩ := wf_u8' w0
  obtain ⟨n1, rfl, rfl, rfl, w1⟩ := open_int Tryz.underlying5 (hval 1 5 v1 rfl rfl) h1
  obtain ⟨k1, rfl, l1⟩ := wf_u8' w1
  clear hA0 hval0 hsz0
  refine (storeEnds_any append_said k0 k1 l0 l1 W).mono fun e W' ⟨he, hb⟩ => ⟨_, he, ?_⟩
  exact law_post Try.laidOut (by kernel_rfl) rfl rfl Tryz.underlying4 hW' rfl hb

theorem storeEnds_named : Tryz.prog.funcNamed Rows.storeEndsRow.func = some 8 := by kernel_rfl
theorem storeEnds_named2 : Tryz.prog.funcNamed "pillarbox/pillarboxlaw18.StoreEnds" = some 8 := storeEnds_named
theorem storeEnds_facts : joinedFacts Tryz.prog 8 Tryz.f8 Rows.storeEndsSpec Rows.storeEndsRow = true := by kernel_rfl
theorem storeEnds_inst : Tryz.f8.isInstance Tryz.prog Rows.storeEndsRow.origin Rows.storeEndsRow.targs := of_decide_eq_true (by kernel_rfl)
theorem storeEnds_wrap : Tryz.f8.isWrapper Tryz.prog Rows.storeEndsRow.wrapper Rows.storeEndsRow.mainSum := by unfold Func.isWrapper; rw [if_neg (of_decide_eq_false (by kernel_rfl))]; exact ⟨rfl, rfl⟩
theorem storeEnds_wf : Rows.storeEndsRow.wfByText (OpenSpec.ofChange Rows.storeEndsSpec) = true := by kernel_rfl
theorem storeEnds_main : Tryz.prog.mainIs = some (Rows.storeEndsCard.stood.harness.1, Rows.storeEndsCard.stood.harness.2.toList) := by kernel_rfl
theorem storeEnds_looks : false = Tryz.prog.looks [] := by kernel_rfl
theorem storeEnds_stand : ([5, 5].all fun u => !Tryz.prog.wantsStandIn u) = true := by kernel_rfl
theorem storeEnds_goes : false = Rows.storeEndsRow.goesBy Tryz.prog := by kernel_rfl

theorem storeEnds_said : Rows.StoreEndsSaid :=
  OpenClaim.holds_of_wide 8 Tryz.f8 rfl rfl rfl rfl rfl rfl rfl ⟨rfl, rfl, rfl, rfl, rfl⟩ rfl rfl rfl rfl rfl storeEnds_named Tryz.func8 storeEnds_facts
    storeEnds_inst storeEnds_wrap
    (fun os started H enc _ => storeEnds_lifted os started H enc)

theorem storeEnds_holds : Rows.StoreEndsCardSaid :=
  Claim7.holds_tied_plain_at .later [] [.data, .pinned] true _ false storeEnds_said (fun _ h => by cases h) storeEnds_wf (fun _ h => by cases h) storeEnds_row_tie rfl ⟨rfl, rfl⟩ storeEnds_main rfl
    (fun f fn hf hfn => by
      obtain rfl : f = 8 := Option.some.inj (storeEnds_named2.symm.trans hf) |>.symm
      obtain rfl : fn = Tryz.f8 := (Option.some.inj (Tryz.func8.symm.trans hfn)).symm
      exact ⟨storeEnds_looks, fun j t ht => by
        rw [Tryz.params8] at ht
        have hm : t ∈ [5, 5] := by simpa using Array.mem_of_getElem? ht
        exact (show Tryz.prog.wantsStandIn t = false by simpa using List.all_eq_true.1 storeEnds_stand t hm)⟩)
    storeEnds_goes

#print axioms storeEnds_holds

end Go.Proofs.YtmbibhphpjmboaaGreatDoor
