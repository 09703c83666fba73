/-
  No number comes twice in a mailbox, as long as it is there; each is below the mailbox's next; each email is in a mailbox that there is: pillarboxlaw18.StoreUids returns true for every input, and turns nothing. The card: the listed tables as the program's text lays them.
-/
import Derived.Test.YtmbibhphpjmboaaGreatDoorUidsWM
import Derived.Test.YtmbibhphpjmboaaGreatDoorPlaceAllM
import Derived.Test.YtmbibhphpjmboaaGreatDoorGH
import Derived.Test.YtmbibhphpjmboaaGreatDoorGV
import Derived.Test.YtmbibhphpjmboaaGreatDoorLawSM
import Derived.Test.YtmbibhphpjmboaaGreatDoorJoinM
namespace Go.Proofs.YtmbibhphpjmboaaGreatDoor
open Go.RowKit Go.ChangeShapes Go.WideShapes Go.ChangeAt
open Go.ChangeMaps (open_string)

set_option maxRecDepth 100000 in
theorem storeUids_lifted (os : Os) (started : os.Started) (H : Type) (enc : TypeId × Value → H) :
    ReturnsInHanded {} Tryz.checked os 10 .any (fun w args => (Rows.storeUidsSpec.pre enc Tryz.prog Tryz.f10 [] false w args ∧ laidMetH Tryz.prog Rows.storeUidsRow.laid w) ∧ sizedMet enc Tryz.prog Tryz.f10 (OpenSpec.ofChange Rows.storeUidsSpec) false w args)
      (Rows.storeUidsSpec.post enc Tryz.prog Tryz.f10 false true false false) := by
  refine lifted_listed (C := Tryz.checked) (X := fun w => laidMetH Tryz.prog Rows.storeUidsRow.laid w) (v0 := #[.slice none 0 0]) (fun _ _ hh h => h.of_heap hh) Try.own started (by kernel_rfl) Tryz.func10
    (World.laidAll Tryz.prog os Rows.storeUidsRow.laid) 8 (World.laidAll_os _ _ _) (World.shaped_of_ZipB (by kernel_rfl) (by kernel_rfl)) (by kernel_rfl) (by kernel_rfl) (by kernel_rfl)
    (by rw [MakeChecks.laidMetH_plain _ _ _ (by kernel_rfl)]; exact laidMet_laidAll _ (by kernel_rfl) (by kernel_rfl)) ?_
  intro W base args ds gs before hval0 hW hsz0 hL hsh
  have hsz : (DataW.weightsEach Tryz.prog (Tryz.f10.params.toList ++ Rows.storeUidsSpec.plain.varTypes Tryz.prog) (ds ++ gs)).all (· ≤ reachBytes) = true := hsz0
  have hval : ∀ (j : Nat) t v, Tryz.f10.params[j]? = some t → args[j]? = some v → Value.okWide Tryz.prog W .any base t v := hval0
  have hW' := hW
  obtain ⟨p, q, hA0, hV, rfl, _, _⟩ := hW
  have hA : DataW.TrodAll enc Tryz.prog W 0 (fun _ => true) true Tryz.f10.params.toList args.toList ds p := hA0
  rw [Tryz.params10] at hA hval hsz
  obtain ⟨v0, d0, rfl, rfl, h0⟩ := trodAll_one hA
  obtain ⟨rfl, rfl⟩ := trodVars_none hV
  obtain ⟨fuel0, hf0⟩ := h0
  have hc0 : ∃ A n cap, v0 = .slice A n cap := okWide_slice Tryz.underlying61 (hval 0 61 v0 rfl rfl)
  obtain ⟨A0, n0, cap0, rfl⟩ := hc0
  obtain ⟨acts0, hr0, ha0⟩ := acts_in hf0
  clear hA0 hval0 hsz0
  refine (storeUids_any append_said place_said _ acts0 W hr0 ha0).mono fun e W' ⟨he, hb⟩ => ⟨_, he, ?_⟩
  exact law_post Try.laidOut (by kernel_rfl) rfl rfl Tryz.underlying4 hW' rfl hb

theorem storeUids_named : Tryz.prog.funcNamed Rows.storeUidsRow.func = some 10 := by kernel_rfl
theorem storeUids_named2 : Tryz.prog.funcNamed "pillarbox/pillarboxlaw18.StoreUids" = some 10 := storeUids_named
theorem storeUids_j0 : Jn.j0 Tryz.prog 10 Tryz.f10 Rows.storeUidsSpec Rows.storeUidsRow = true := by kernel_rfl
theorem storeUids_j1 : Jn.j1 Tryz.prog 10 Tryz.f10 Rows.storeUidsSpec Rows.storeUidsRow = true := by kernel_rfl
theorem storeUids_j2 : Jn.j2 Tryz.prog 10 Tryz.f10 Rows.storeUidsSpec Rows.storeUidsRow = true := by kernel_rfl
theorem storeUids_j3 : Jn.j3 Tryz.prog 10 Tryz.f10 Rows.storeUidsSpec Rows.storeUidsRow = true := by kernel_rfl
theorem storeUids_j4 : Jn.j4 Tryz.prog 10 Tryz.f10 Rows.storeUidsSpec Rows.storeUidsRow = true := by kernel_rfl
theorem storeUids_j5 : Jn.j5 Tryz.prog 10 Tryz.f10 Rows.storeUidsSpec Rows.storeUidsRow = true := by kernel_rfl
theorem storeUids_j6 : Jn.j6 Tryz.prog 10 Tryz.f10 Rows.storeUidsSpec Rows.storeUidsRow = true := by kernel_rfl
theorem storeUids_j7 : Jn.j7 Tryz.prog 10 Tryz.f10 Rows.storeUidsSpec Rows.storeUidsRow = true := by kernel_rfl
theorem storeUids_j8 : Jn.j8 Tryz.prog 10 Tryz.f10 Rows.storeUidsSpec Rows.storeUidsRow = true := by kernel_rfl
theorem storeUids_j9 : Jn.j9 Tryz.prog 10 Tryz.f10 Rows.storeUidsSpec Rows.storeUidsRow = true := by kernel_rfl
theorem storeUids_j10 : Jn.j10 Tryz.prog 10 Tryz.f10 Rows.storeUidsSpec Rows.storeUidsRow = true := by kernel_rfl
theorem storeUids_j11 : Jn.j11 Tryz.prog 10 Tryz.f10 Rows.storeUidsSpec Rows.storeUidsRow = true := by kernel_rfl
theorem storeUids_j12 : Jn.j12 Tryz.prog 10 Tryz.f10 Rows.storeUidsSpec Rows.storeUidsRow = true := by kernel_rfl
theorem storeUids_j13 : Jn.j13 Tryz.prog 10 Tryz.f10 Rows.storeUidsSpec Rows.storeUidsRow = true := by kernel_rfl
theorem storeUids_j14 : Jn.j14 Tryz.prog 10 Tryz.f10 Rows.storeUidsSpec Rows.storeUidsRow = true := by kernel_rfl
theorem storeUids_j15 : Jn.j15 Tryz.prog 10 Tryz.f10 Rows.storeUidsSpec Rows.storeUidsRow = true := by kernel_rfl
theorem storeUids_j16 : Jn.j16 Tryz.prog 10 Tryz.f10 Rows.storeUidsSpec Rows.storeUidsRow = true := by kernel_rfl
theorem storeUids_j17 : Jn.j17 Tryz.prog 10 Tryz.f10 Rows.storeUidsSpec Rows.storeUidsRow = true := by kernel_rfl
theorem storeUids_j18 : Jn.j18 Tryz.prog 10 Tryz.f10 Rows.storeUidsSpec Rows.storeUidsRow = true := by kernel_rfl
theorem storeUids_j19 : Jn.j19 Tryz.prog 10 Tryz.f10 Rows.storeUidsSpec Rows.storeUidsRow = true := by kernel_rfl
theorem storeUids_j20 : Jn.j20 Tryz.prog 10 Tryz.f10 Rows.storeUidsSpec Rows.storeUidsRow = true := by kernel_rfl
theorem storeUids_j21 : Jn.j21 Tryz.prog 10 Tryz.f10 Rows.storeUidsSpec Rows.storeUidsRow = true := by kernel_rfl
theorem storeUids_j22 : Jn.j22 Tryz.prog 10 Tryz.f10 Rows.storeUidsSpec Rows.storeUidsRow = true := by kernel_rfl
theorem storeUids_j23 : Jn.j23 Tryz.prog 10 Tryz.f10 Rows.storeUidsSpec Rows.storeUidsRow = true := by kernel_rfl
theorem storeUids_j24 : Jn.j24 Tryz.prog 10 Tryz.f10 Rows.storeUidsSpec Rows.storeUidsRow = true := by kernel_rfl
theorem storeUids_j25 : Jn.j25 Tryz.prog 10 Tryz.f10 Rows.storeUidsSpec Rows.storeUidsRow = true := by kernel_rfl
theorem storeUids_j26 : Jn.j26 Tryz.prog 10 Tryz.f10 Rows.storeUidsSpec Rows.storeUidsRow = true := by kernel_rfl
theorem storeUids_j27 : Jn.j27 Tryz.prog 10 Tryz.f10 Rows.storeUidsSpec Rows.storeUidsRow = true := by kernel_rfl
theorem storeUids_j28 : Jn.j28 Tryz.prog 10 Tryz.f10 Rows.storeUidsSpec Rows.storeUidsRow = true := by kernel_rfl
theorem storeUids_j29 : Jn.j29 Tryz.prog 10 Tryz.f10 Rows.storeUidsSpec Rows.storeUidsRow = true := by kernel_rfl
theorem storeUids_j30 : Jn.j30 Tryz.prog 10 Tryz.f10 Rows.storeUidsSpec Rows.storeUidsRow = true := by kernel_rfl
theorem storeUids_j31 : Jn.j31 Tryz.prog 10 Tryz.f10 Rows.storeUidsSpec Rows.storeUidsRow = true := by kernel_rfl
theorem storeUids_facts : joinedFacts Tryz.prog 10 Tryz.f10 Rows.storeUidsSpec Rows.storeUidsRow = true := joined_of storeUids_j0 storeUids_j1 storeUids_j2 storeUids_j3 storeUids_j4 storeUids_j5 storeUids_j6 storeUids_j7 storeUids_j8 storeUids_j9 storeUids_j10 storeUids_j11 storeUids_j12 storeUids_j13 storeUids_j14 storeUids_j15 storeUids_j16 storeUids_j17 storeUids_j18 storeUids_j19 storeUids_j20 storeUids_j21 storeUids_j22 storeUids_j23 storeUids_j24 storeUids_j25 storeUids_j26 storeUids_j27 storeUids_j28 storeUids_j29 storeUids_j30 storeUids_j31
theorem storeUids_inst : Tryz.f10.isInstance Tryz.prog Rows.storeUidsRow.origin Rows.storeUidsRow.targs := of_decide_eq_true (by kernel_rfl)
theorem storeUids_wrap : Tryz.f10.isWrapper Tryz.prog Rows.storeUidsRow.wrapper Rows.storeUidsRow.mainSum := by unfold Func.isWrapper; rw [if_neg (of_decide_eq_false (by kernel_rfl))]; exact ⟨rfl, rfl⟩
theorem storeUids_wf : Rows.storeUidsRow.wfByText (OpenSpec.ofChange Rows.storeUidsSpec) = true := by kernel_rfl
theorem storeUids_main : Tryz.prog.mainIs = some (Rows.storeUidsCard.stood.harness.1, Rows.storeUidsCard.stood.harness.2.toList) := by kernel_rfl
theorem storeUids_looks : false = Tryz.prog.looks [] := by kernel_rfl
theorem storeUids_stand : ([61].all fun u => !Tryz.prog.wantsStandIn u) = true := by kernel_rfl
theorem storeUids_goes : false = Rows.storeUidsRow.goesBy Tryz.prog := by kernel_rfl

theorem storeUids_said : Rows.StoreUidsSaid :=
  OpenClaim.holds_of_wide 10 Tryz.f10 rfl rfl rfl rfl rfl rfl rfl ⟨rfl, rfl, rfl, rfl, rfl⟩ rfl rfl rfl rfl rfl storeUids_named Tryz.func10 storeUids_facts
    storeUids_inst storeUids_wrap
    (fun os started H enc _ => storeUids_lifted os started H enc)

theorem storeUids_holds : Rows.StoreUidsCardSaid :=
  Claim7.holds_tied_plain_at .later [] [.data, .pinned] true _ false storeUids_said (fun _ h => by cases h) storeUids_wf (fun _ h => by cases h) storeUids_row_tie rfl ⟨rfl, rfl⟩ storeUids_main rfl
    (fun f fn hf hfn => by
      obtain rfl : f = 10 := Option.some.inj (storeUids_named2.symm.trans hf) |>.symm
      obtain rfl : fn = Tryz.f10 := (Option.some.inj (Tryz.func10.symm.trans hfn)).symm
      exact ⟨storeUids_looks, fun j t ht => by
        rw [Tryz.params10] at ht
        have hm : t ∈ [61] := by simpa using Array.mem_of_getElem? ht
        exact (show Tryz.prog.wantsStandIn t = false by simpa using List.all_eq_true.1 storeUids_stand t hm)⟩)
    storeUids_goes

#print axioms storeUids_holds

end Go.Proofs.YtmbibhphpjmboaaGreatDoor
