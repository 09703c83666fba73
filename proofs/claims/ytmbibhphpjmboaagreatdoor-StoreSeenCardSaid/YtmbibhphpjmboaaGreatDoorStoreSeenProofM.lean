/-
  A keyword that comes or goes turns the email; the one that says seen turns its mailboxes too; the same keywords turn nothing: pillarboxlaw18.StoreSeen returns true for every input, and turns nothing. The card: the listed tables as the program's text lays them.
-/
import Derived.Test.YtmbibhphpjmboaaGreatDoorSeenWM
import Derived.Test.YtmbibhphpjmboaaGreatDoorGH
import Derived.Test.YtmbibhphpjmboaaGreatDoorLawSM
namespace Go.Proofs.YtmbibhphpjmboaaGreatDoor
open Go.RowKit Go.ChangeShapes Go.WideShapes Go.ChangeAt
open Go.ChangeMaps (open_string)

set_option maxRecDepth 100000 in
theorem storeSeen_lifted (os : Os) (started : os.Started) (H : Type) (enc : TypeId × Value → H) :
    ReturnsInHanded {} Tryz.checked os 5 .any (fun w args => (Rows.storeSeenSpec.pre enc Tryz.prog Tryz.f5 [] false w args ∧ laidMetH Tryz.prog Rows.storeSeenRow.laid w) ∧ sizedMet enc Tryz.prog Tryz.f5 (OpenSpec.ofChange Rows.storeSeenSpec) false w args)
      (Rows.storeSeenSpec.post enc Tryz.prog Tryz.f5 false true false false) := by
  refine lifted_listed (C := Tryz.checked) (X := fun w => laidMetH Tryz.prog Rows.storeSeenRow.laid w) (v0 := #[.bool false, .bool false, .bool false]) (fun _ _ hh h => h.of_heap hh) Try.own started (by kernel_rfl) Tryz.func5
    (World.laidAll Tryz.prog os Rows.storeSeenRow.laid) 8 (World.laidAll_os _ _ _) (World.shaped_of_ZipB (by kernel_rfl) (by kernel_rfl)) (by kernel_rfl) (by kernel_rfl) (by kernel_rfl)
    (by rw [MakeChecks.laidMetH_plain _ _ _ (by kernel_rfl)]; exact laidMet_laidAll _ (by kernel_rfl) (by kernel_rfl)) ?_
  intro W base args ds gs before hval0 hW hsz0 hL hsh
  have hsz : (DataW.weightsEach Tryz.prog (Tryz.f5.params.toList ++ Rows.storeSeenSpec.plain.varTypes Tryz.prog) (ds ++ gs)).all (· ≤ reachBytes) = true := hsz0
  have hval : ∀ (j : Nat) t v, Tryz.f5.params[j]? = some t → args[j]? = some v → Value.okWide Tryz.prog W .any base t v := hval0
  have hW' := hW
  obtain ⟨p, q, hA0, hV, rfl, _, _⟩ := hW
  have hA : DataW.TrodAll enc Tryz.prog W 0 (fun _ => true) true Tryz.f5.params.toList args.toList ds p := hA0
  rw [Tryz.params5] at hA hval hsz
  obtain ⟨v0, v1, v2, d0, d1, d2, p0, p1, p2, rfl, rfl, rfl, h0, h1, h2⟩ := trodAll_three hA
  obtain ⟨rfl, rfl⟩ := trodVars_none hV
  obtain ⟨b0, rfl, rfl, rfl⟩ := open_bool Tryz.underlying4 (hval 0 4 v0 rfl rfl) h0
  obtain ⟨b1, rfl, rfl, rfl⟩ := open_bool Tryz.underlying4 (hval 1 4 v1 rfl rfl) h1
  obtain ⟨b2, rfl, rfl, rfl⟩ := open_bool Tryz.underlying4 (hval 2 4 v2 rfl rfl) h2
  clear hA0 hval0 hsz0
  refine (storeSeen_any append_said b0 b1 b2 W).mono fun e W' ⟨he, hb⟩ => ⟨_, he, ?_⟩
  exact law_post Try.laidOut (by kernel_rfl) rfl rfl Tryz.underlying4 hW' rfl hb

theorem storeSeen_named : Tryz.prog.funcNamed Rows.storeSeenRow.func = some 5 := by kernel_rfl
theorem storeSeen_named2 : Tryz.prog.funcNamed "pillarbox/pillarboxlaw18.StoreSeen" = some 5 := storeSeen_named
theorem storeSeen_facts : joinedFacts Tryz.prog 5 Tryz.f5 Rows.storeSeenSpec Rows.storeSeenRow = true := by kernel_rfl
theorem storeSeen_inst : Tryz.f5.isInstance Tryz.prog Rows.storeSeenRow.origin Rows.storeSeenRow.targs := of_decide_eq_true (by kernel_rfl)
theorem storeSeen_wrap : Tryz.f5.isWrapper Tryz.prog Rows.storeSeenRow.wrapper Rows.storeSeenRow.mainSum := by unfold Func.isWrapper; rw [if_neg (of_decide_eq_false (by kernel_rfl))]; exact ⟨rfl, rfl⟩
theorem storeSeen_wf : Rows.storeSeenRow.wfByText (OpenSpec.ofChange Rows.storeSeenSpec) = true := by kernel_rfl
theorem storeSeen_main : Tryz.prog.mainIs = some (Rows.storeSeenCard.stood.harness.1, Rows.storeSeenCard.stood.harness.2.toList) := by kernel_rfl
theorem storeSeen_looks : false = Tryz.prog.looks [] := by kernel_rfl
theorem storeSeen_stand : ([4, 4, 4].all fun u => !Tryz.prog.wantsStandIn u) = true := by kernel_rfl
theorem storeSeen_goes : false = Rows.storeSeenRow.goesBy Tryz.prog := by kernel_rfl

theorem storeSeen_said : Rows.StoreSeenSaid :=
  OpenClaim.holds_of_wide 5 Tryz.f5 rfl rfl rfl rfl rfl rfl rfl ⟨rfl, rfl, rfl, rfl, rfl⟩ rfl rfl rfl rfl rfl storeSeen_named Tryz.func5 storeSeen_facts
    storeSeen_inst storeSeen_wrap
    (fun os started H enc _ => storeSeen_lifted os started H enc)

theorem storeSeen_holds : Rows.StoreSeenCardSaid :=
  Claim7.holds_tied_plain_at .later [] [.data, .pinned] true _ false storeSeen_said (fun _ h => by cases h) storeSeen_wf (fun _ h => by cases h) storeSeen_row_tie rfl ⟨rfl, rfl⟩ storeSeen_main rfl
    (fun f fn hf hfn => by
      obtain rfl : f = 5 := Option.some.inj (storeSeen_named2.symm.trans hf) |>.symm
      obtain rfl : fn = Tryz.f5 := (Option.some.inj (Tryz.func5.symm.trans hfn)).symm
      exact ⟨storeSeen_looks, fun j t ht => by
        rw [Tryz.params5] at ht
        have hm : t ∈ [4, 4, 4] := by simpa using Array.mem_of_getElem? ht
        exact (show Tryz.prog.wantsStandIn t = false by simpa using List.all_eq_true.1 storeSeen_stand t hm)⟩)
    storeSeen_goes

#print axioms storeSeen_holds

end Go.Proofs.YtmbibhphpjmboaaGreatDoor
