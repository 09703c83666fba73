/-
  Emails that answer one another are of one thread; those that answer none are of their own: pillarboxlaw18.StoreThreads returns true for every input, and turns nothing. The card: the listed tables as the program's text lays them.
-/
import Derived.Test.YtmbibhphpjmboaaGreatDoorThreadsWM
import Derived.Test.YtmbibhphpjmboaaGreatDoorGH
import Derived.Test.YtmbibhphpjmboaaGreatDoorNumsInM
import Derived.Test.YtmbibhphpjmboaaGreatDoorLawSM
namespace Go.Proofs.YtmbibhphpjmboaaGreatDoor
open Go.RowKit Go.ChangeShapes Go.WideShapes Go.ChangeAt
open Go.ChangeMaps (open_string)

set_option maxRecDepth 100000 in
theorem storeThreads_lifted (os : Os) (started : os.Started) (H : Type) (enc : TypeId × Value → H) :
    ReturnsInHanded {} Tryz.checked os 3 .any (fun w args => (Rows.storeThreadsSpec.pre enc Tryz.prog Tryz.f3 [] false w args ∧ laidMetH Tryz.prog Rows.storeThreadsRow.laid w) ∧ sizedMet enc Tryz.prog Tryz.f3 (OpenSpec.ofChange Rows.storeThreadsSpec) false w args)
      (Rows.storeThreadsSpec.post enc Tryz.prog Tryz.f3 false true false false) := by
  refine lifted_listed (C := Tryz.checked) (X := fun w => laidMetH Tryz.prog Rows.storeThreadsRow.laid w) (v0 := #[.slice none 0 0]) (fun _ _ hh h => h.of_heap hh) Try.own started (by kernel_rfl) Tryz.func3
    (World.laidAll Tryz.prog os Rows.storeThreadsRow.laid) 8 (World.laidAll_os _ _ _) (World.shaped_of_ZipB (by kernel_rfl) (by kernel_rfl)) (by kernel_rfl) (by kernel_rfl) (by kernel_rfl)
    (by rw [MakeChecks.laidMetH_plain _ _ _ (by kernel_rfl)]; exact laidMet_laidAll _ (by kernel_rfl) (by kernel_rfl)) ?_
  intro W base args ds gs before hval0 hW hsz0 hL hsh
  have hsz : (DataW.weightsEach Tryz.prog (Tryz.f3.params.toList ++ Rows.storeThreadsSpec.plain.varTypes Tryz.prog) (ds ++ gs)).all (· ≤ reachBytes) = true := hsz0
  have hval : ∀ (j : Nat) t v, Tryz.f3.params[j]? = some t → args[j]? = some v → Value.okWide Tryz.prog W .any base t v := hval0
  have hW' := hW
  obtain ⟨p, q, hA0, hV, rfl, _, _⟩ := hW
  have hA : DataW.TrodAll enc Tryz.prog W 0 (fun _ => true) true Tryz.f3.params.toList args.toList ds p := hA0
  rw [Tryz.params3] at hA hval hsz
  obtain ⟨v0, d0, rfl, rfl, h0⟩ := trodAll_one hA
  obtain ⟨rfl, rfl⟩ := trodVars_none hV
  obtain ⟨fuel0, hf0⟩ := h0
  have hc0 : ∃ A n cap, v0 = .slice A n cap := okWide_slice Tryz.underlying22 (hval 0 22 v0 rfl rfl)
  obtain ⟨A0, n0, cap0, rfl⟩ := hc0
  obtain ⟨gs, hr0, hb0⟩ := nums_in Tryz.underlying22 Tryz.underlying5 (by kernel_rfl) hf0
  have hb : ∀ g ∈ gs, 0 ≤ g ∧ g ≤ 255 := fun g hg => by
    obtain ⟨k, rfl, hk⟩ := wf_u8' (hb0 g hg)
    omega
  clear hA0 hval0 hsz0
  refine (storeThreads_any append_said _ gs W hr0 hb).mono fun e W' ⟨he, hb⟩ => ⟨_, he, ?_⟩
  exact law_post Try.laidOut (by kernel_rfl) rfl rfl Tryz.underlying4 hW' rfl hb

theorem storeThreads_named : Tryz.prog.funcNamed Rows.storeThreadsRow.func = some 3 := by kernel_rfl
theorem storeThreads_named2 : Tryz.prog.funcNamed "pillarbox/pillarboxlaw18.StoreThreads" = some 3 := storeThreads_named
theorem storeThreads_facts : joinedFacts Tryz.prog 3 Tryz.f3 Rows.storeThreadsSpec Rows.storeThreadsRow = true := by kernel_rfl
theorem storeThreads_inst : Tryz.f3.isInstance Tryz.prog Rows.storeThreadsRow.origin Rows.storeThreadsRow.targs := of_decide_eq_true (by kernel_rfl)
theorem storeThreads_wrap : Tryz.f3.isWrapper Tryz.prog Rows.storeThreadsRow.wrapper Rows.storeThreadsRow.mainSum := by unfold Func.isWrapper; rw [if_neg (of_decide_eq_false (by kernel_rfl))]; exact ⟨rfl, rfl⟩
theorem storeThreads_wf : Rows.storeThreadsRow.wfByText (OpenSpec.ofChange Rows.storeThreadsSpec) = true := by kernel_rfl
theorem storeThreads_main : Tryz.prog.mainIs = some (Rows.storeThreadsCard.stood.harness.1, Rows.storeThreadsCard.stood.harness.2.toList) := by kernel_rfl
theorem storeThreads_looks : false = Tryz.prog.looks [] := by kernel_rfl
theorem storeThreads_stand : ([22].all fun u => !Tryz.prog.wantsStandIn u) = true := by kernel_rfl
theorem storeThreads_goes : false = Rows.storeThreadsRow.goesBy Tryz.prog := by kernel_rfl

theorem storeThreads_said : Rows.StoreThreadsSaid :=
  OpenClaim.holds_of_wide 3 Tryz.f3 rfl rfl rfl rfl rfl rfl rfl ⟨rfl, rfl, rfl, rfl, rfl⟩ rfl rfl rfl rfl rfl storeThreads_named Tryz.func3 storeThreads_facts
    storeThreads_inst storeThreads_wrap
    (fun os started H enc _ => storeThreads_lifted os started H enc)

theorem storeThreads_holds : Rows.StoreThreadsCardSaid :=
  Claim7.holds_tied_plain_at .later [] [.data, .pinned] true _ false storeThreads_said (fun _ h => by cases h) storeThreads_wf (fun _ h => by cases h) storeThreads_row_tie rfl ⟨rfl, rfl⟩ storeThreads_main rfl
    (fun f fn hf hfn => by
      obtain rfl : f = 3 := Option.some.inj (storeThreads_named2.symm.trans hf) |>.symm
      obtain rfl : fn = Tryz.f3 := (Option.some.inj (Tryz.func3.symm.trans hfn)).symm
      exact ⟨storeThreads_looks, fun j t ht => by
        rw [Tryz.params3] at ht
        have hm : t ∈ [22] := by simpa using Array.mem_of_getElem? ht
        exact (show Tryz.prog.wantsStandIn t = false by simpa using List.all_eq_true.1 storeThreads_stand t hm)⟩)
    storeThreads_goes

#print axioms storeThreads_holds

end Go.Proofs.YtmbibhphpjmboaaGreatDoor
