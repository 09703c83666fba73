/-
  Each step's entries have its clock; what was made, turned or gone is what is there, and was, behind it and ahead: pillarboxlaw18.StoreLogs returns true for every input, and turns nothing. The card: the listed tables as the program's text lays them.
-/
import Derived.Test.YtmbibhphpjmboaaGreatDoorLogsWM
import Derived.Test.YtmbibhphpjmboaaGreatDoorPlaceAllM
import Derived.Test.YtmbibhphpjmboaaGreatDoorGH
import Derived.Test.YtmbibhphpjmboaaGreatDoorGV
import Derived.Test.YtmbibhphpjmboaaGreatDoorLawSM
import Derived.Test.YtmbibhphpjmboaaGreatDoorJoinM
namespace Go.Proofs.YtmbibhphpjmboaaGreatDoor
open Go.RowKit Go.ChangeShapes Go.WideShapes Go.ChangeAt
open Go.ChangeMaps (open_string)

set_option maxRecDepth 100000 in
theorem storeLogs_lifted (os : Os) (started : os.Started) (H : Type) (enc : TypeId × Value → H) :
    ReturnsInHanded {} Tryz.checked os 13 .any (fun w args => (Rows.storeLogsSpec.pre enc Tryz.prog Tryz.f13 [] false w args ∧ laidMetH Tryz.prog Rows.storeLogsRow.laid w) ∧ sizedMet enc Tryz.prog Tryz.f13 (OpenSpec.ofChange Rows.storeLogsSpec) false w args)
      (Rows.storeLogsSpec.post enc Tryz.prog Tryz.f13 false true false false) := by
  refine lifted_listed (C := Tryz.checked) (X := fun w => laidMetH Tryz.prog Rows.storeLogsRow.laid w) (v0 := #[.slice none 0 0]) (fun _ _ hh h => h.of_heap hh) Try.own started (by kernel_rfl) Tryz.func13
    (World.laidAll Tryz.prog os Rows.storeLogsRow.laid) 8 (World.laidAll_os _ _ _) (World.shaped_of_ZipB (by kernel_rfl) (by kernel_rfl)) (by kernel_rfl) (by kernel_rfl) (by kernel_rfl)
    (by rw [MakeChecks.laidMetH_plain _ _ _ (by kernel_rfl)]; exact laidMet_laidAll _ (by kernel_rfl) (by kernel_rfl)) ?_
  intro W base args ds gs before hval0 hW hsz0 hL hsh
  have hsz : (DataW.weightsEach Tryz.prog (Tryz.f13.params.toList ++ Rows.storeLogsSpec.plain.varTypes Tryz.prog) (ds ++ gs)).all (· ≤ reachBytes) = true := hsz0
  have hval : ∀ (j : Nat) t v, Tryz.f13.params[j]? = some t → args[j]? = some v → Value.okWide Tryz.prog W .any base t v := hval0
  have hW' := hW
  obtain ⟨p, q, hA0, hV, rfl, _, _⟩ := hW
  have hA : DataW.TrodAll enc Tryz.prog W 0 (fun _ => true) true Tryz.f13.params.toList args.toList ds p := hA0
  rw [Tryz.params13] at hA hval hsz
  obtain ⟨v0, d0, rfl, rfl, h0⟩ := trodAll_one hA
  obtain ⟨rfl, rfl⟩ := trodVars_none hV
  obtain ⟨fuel0, hf0⟩ := h0
  have hc0 : ∃ A n cap, v0 = .slice A n cap := okWide_slice Tryz.underlying61 (hval 0 61 v0 rfl rfl)
  obtain ⟨A0, n0, cap0, rfl⟩ := hc0
  obtain ⟨acts0, hr0, ha0⟩ := acts_in hf0
  clear hA0 hval0 hsz0
  refine (storeLogs_any append_said place_said _ acts0 W hr0 ha0).mono fun e W' ⟨he, hb⟩ => ⟨_, he, ?_⟩
  exact law_post Try.laidOut (by kernel_rfl) rfl rfl Tryz.underlying4 hW' rfl hb

theorem storeLogs_named : Tryz.prog.funcNamed Rows.storeLogsRow.func = some 13 := by kernel_rfl
theorem storeLogs_named2 : Tryz.prog.funcNamed "pillarbox/pillarboxlaw18.StoreLogs" = some 13 := storeLogs_named
theorem storeLogs_j0 : Jn.j0 Tryz.prog 13 Tryz.f13 Rows.storeLogsSpec Rows.storeLogsRow = true := by kernel_rfl
theorem storeLogs_j1 : Jn.j1 Tryz.prog 13 Tryz.f13 Rows.storeLogsSpec Rows.storeLogsRow = true := by kernel_rfl
theorem storeLogs_j2 : Jn.j2 Tryz.prog 13 Tryz.f13 Rows.storeLogsSpec Rows.storeLogsRow = true := by kernel_rfl
theorem storeLogs_j3 : Jn.j3 Tryz.prog 13 Tryz.f13 Rows.storeLogsSpec Rows.storeLogsRow = true := by kernel_rfl
theorem storeLogs_j4 : Jn.j4 Tryz.prog 13 Tryz.f13 Rows.storeLogsSpec Rows.storeLogsRow = true := by kernel_rfl
theorem storeLogs_j5 : Jn.j5 Tryz.prog 13 Tryz.f13 Rows.storeLogsSpec Rows.storeLogsRow = true := by kernel_rfl
theorem storeLogs_j6 : Jn.j6 Tryz.prog 13 Tryz.f13 Rows.storeLogsSpec Rows.storeLogsRow = true := by kernel_rfl
theorem storeLogs_j7 : Jn.j7 Tryz.prog 13 Tryz.f13 Rows.storeLogsSpec Rows.storeLogsRow = true := by kernel_rfl
theorem storeLogs_j8 : Jn.j8 Tryz.prog 13 Tryz.f13 Rows.storeLogsSpec Rows.storeLogsRow = true := by kernel_rfl
theorem storeLogs_j9 : Jn.j9 Tryz.prog 13 Tryz.f13 Rows.storeLogsSpec Rows.storeLogsRow = true := by kernel_rfl
theorem storeLogs_j10 : Jn.j10 Tryz.prog 13 Tryz.f13 Rows.storeLogsSpec Rows.storeLogsRow = true := by kernel_rfl
theorem storeLogs_j11 : Jn.j11 Tryz.prog 13 Tryz.f13 Rows.storeLogsSpec Rows.storeLogsRow = true := by kernel_rfl
theorem storeLogs_j12 : Jn.j12 Tryz.prog 13 Tryz.f13 Rows.storeLogsSpec Rows.storeLogsRow = true := by kernel_rfl
theorem storeLogs_j13 : Jn.j13 Tryz.prog 13 Tryz.f13 Rows.storeLogsSpec Rows.storeLogsRow = true := by kernel_rfl
theorem storeLogs_j14 : Jn.j14 Tryz.prog 13 Tryz.f13 Rows.storeLogsSpec Rows.storeLogsRow = true := by kernel_rfl
theorem storeLogs_j15 : Jn.j15 Tryz.prog 13 Tryz.f13 Rows.storeLogsSpec Rows.storeLogsRow = true := by kernel_rfl
theorem storeLogs_j16 : Jn.j16 Tryz.prog 13 Tryz.f13 Rows.storeLogsSpec Rows.storeLogsRow = true := by kernel_rfl
theorem storeLogs_j17 : Jn.j17 Tryz.prog 13 Tryz.f13 Rows.storeLogsSpec Rows.storeLogsRow = true := by kernel_rfl
theorem storeLogs_j18 : Jn.j18 Tryz.prog 13 Tryz.f13 Rows.storeLogsSpec Rows.storeLogsRow = true := by kernel_rfl
theorem storeLogs_j19 : Jn.j19 Tryz.prog 13 Tryz.f13 Rows.storeLogsSpec Rows.storeLogsRow = true := by kernel_rfl
theorem storeLogs_j20 : Jn.j20 Tryz.prog 13 Tryz.f13 Rows.storeLogsSpec Rows.storeLogsRow = true := by kernel_rfl
theorem storeLogs_j21 : Jn.j21 Tryz.prog 13 Tryz.f13 Rows.storeLogsSpec Rows.storeLogsRow = true := by kernel_rfl
theorem storeLogs_j22 : Jn.j22 Tryz.prog 13 Tryz.f13 Rows.storeLogsSpec Rows.storeLogsRow = true := by kernel_rfl
theorem storeLogs_j23 : Jn.j23 Tryz.prog 13 Tryz.f13 Rows.storeLogsSpec Rows.storeLogsRow = true := by kernel_rfl
theorem storeLogs_j24 : Jn.j24 Tryz.prog 13 Tryz.f13 Rows.storeLogsSpec Rows.storeLogsRow = true := by kernel_rfl
theorem storeLogs_j25 : Jn.j25 Tryz.prog 13 Tryz.f13 Rows.storeLogsSpec Rows.storeLogsRow = true := by kernel_rfl
theorem storeLogs_j26 : Jn.j26 Tryz.prog 13 Tryz.f13 Rows.storeLogsSpec Rows.storeLogsRow = true := by kernel_rfl
theorem storeLogs_j27 : Jn.j27 Tryz.prog 13 Tryz.f13 Rows.storeLogsSpec Rows.storeLogsRow = true := by kernel_rfl
theorem storeLogs_j28 : Jn.j28 Tryz.prog 13 Tryz.f13 Rows.storeLogsSpec Rows.storeLogsRow = true := by kernel_rfl
theorem storeLogs_j29 : Jn.j29 Tryz.prog 13 Tryz.f13 Rows.storeLogsSpec Rows.storeLogsRow = true := by kernel_rfl
theorem storeLogs_j30 : Jn.j30 Tryz.prog 13 Tryz.f13 Rows.storeLogsSpec Rows.storeLogsRow = true := by kernel_rfl
theorem storeLogs_j31 : Jn.j31 Tryz.prog 13 Tryz.f13 Rows.storeLogsSpec Rows.storeLogsRow = true := by kernel_rfl
theorem storeLogs_facts : joinedFacts Tryz.prog 13 Tryz.f13 Rows.storeLogsSpec Rows.storeLogsRow = true := joined_of storeLogs_j0 storeLogs_j1 storeLogs_j2 storeLogs_j3 storeLogs_j4 storeLogs_j5 storeLogs_j6 storeLogs_j7 storeLogs_j8 storeLogs_j9 storeLogs_j10 storeLogs_j11 storeLogs_j12 storeLogs_j13 storeLogs_j14 storeLogs_j15 storeLogs_j16 storeLogs_j17 storeLogs_j18 storeLogs_j19 storeLogs_j20 storeLogs_j21 storeLogs_j22 storeLogs_j23 storeLogs_j24 storeLogs_j25 storeLogs_j26 storeLogs_j27 storeLogs_j28 storeLogs_j29 storeLogs_j30 storeLogs_j31
theorem storeLogs_inst : Tryz.f13.isInstance Tryz.prog Rows.storeLogsRow.origin Rows.storeLogsRow.targs := of_decide_eq_true (by kernel_rfl)
theorem storeLogs_wrap : Tryz.f13.isWrapper Tryz.prog Rows.storeLogsRow.wrapper Rows.storeLogsRow.mainSum := by unfold Func.isWrapper; rw [if_neg (of_decide_eq_false (by kernel_rfl))]; exact ⟨rfl, rfl⟩
theorem storeLogs_wf : Rows.storeLogsRow.wfByText (OpenSpec.ofChange Rows.storeLogsSpec) = true := by kernel_rfl
theorem storeLogs_main : Tryz.prog.mainIs = some (Rows.storeLogsCard.stood.harness.1, Rows.storeLogsCard.stood.harness.2.toList) := by kernel_rfl
theorem storeLogs_looks : false = Tryz.prog.looks [] := by kernel_rfl
theorem storeLogs_stand : ([61].all fun u => !Tryz.prog.wantsStandIn u) = true := by kernel_rfl
theorem storeLogs_goes : false = Rows.storeLogsRow.goesBy Tryz.prog := by kernel_rfl

theorem storeLogs_said : Rows.StoreLogsSaid :=
  OpenClaim.holds_of_wide 13 Tryz.f13 rfl rfl rfl rfl rfl rfl rfl ⟨rfl, rfl, rfl, rfl, rfl⟩ rfl rfl rfl rfl rfl storeLogs_named Tryz.func13 storeLogs_facts
    storeLogs_inst storeLogs_wrap
    (fun os started H enc _ => storeLogs_lifted os started H enc)

theorem storeLogs_holds : Rows.StoreLogsCardSaid :=
  Claim7.holds_tied_plain_at .later [] [.data, .pinned] true _ false storeLogs_said (fun _ h => by cases h) storeLogs_wf (fun _ h => by cases h) storeLogs_row_tie rfl ⟨rfl, rfl⟩ storeLogs_main rfl
    (fun f fn hf hfn => by
      obtain rfl : f = 13 := Option.some.inj (storeLogs_named2.symm.trans hf) |>.symm
      obtain rfl : fn = Tryz.f13 := (Option.some.inj (Tryz.func13.symm.trans hfn)).symm
      exact ⟨storeLogs_looks, fun j t ht => by
        rw [Tryz.params13] at ht
        have hm : t ∈ [61] := by simpa using Array.mem_of_getElem? ht
        exact (show Tryz.prog.wantsStandIn t = false by simpa using List.all_eq_true.1 storeLogs_stand t hm)⟩)
    storeLogs_goes

#print axioms storeLogs_holds

end Go.Proofs.YtmbibhphpjmboaaGreatDoor
