/-
  What the account holds is bound: in number, in octets, in mailboxes; what is too much is refused: pillarboxlaw18.StoreFull returns true for every input, and turns nothing. The card: the listed tables as the program's text lays them.
-/
import Derived.Test.YtmbibhphpjmboaaGreatDoorFullWM
import Derived.Test.YtmbibhphpjmboaaGreatDoorGH
import Derived.Test.YtmbibhphpjmboaaGreatDoorLawSM
namespace Go.Proofs.YtmbibhphpjmboaaGreatDoor
open Go.RowKit Go.ChangeShapes Go.WideShapes Go.ChangeAt
open Go.ChangeMaps (open_string)

set_option maxRecDepth 100000 in
theorem storeFull_lifted (os : Os) (started : os.Started) (H : Type) (enc : TypeId × Value → H) :
    ReturnsInHanded {} Tryz.checked os 6 .any (fun w args => (Rows.storeFullSpec.pre enc Tryz.prog Tryz.f6 [] false w args ∧ laidMetH Tryz.prog Rows.storeFullRow.laid w) ∧ sizedMet enc Tryz.prog Tryz.f6 (OpenSpec.ofChange Rows.storeFullSpec) false w args)
      (Rows.storeFullSpec.post enc Tryz.prog Tryz.f6 false true false false) := by
  refine lifted_listed (C := Tryz.checked) (X := fun w => laidMetH Tryz.prog Rows.storeFullRow.laid w) (v0 := #[.int .u8 0, .int .u8 0]) (fun _ _ hh h => h.of_heap hh) Try.own started (by kernel_rfl) Tryz.func6
    (World.laidAll Tryz.prog os Rows.storeFullRow.laid) 8 (World.laidAll_os _ _ _) (World.shaped_of_ZipB (by kernel_rfl) (by kernel_rfl)) (by kernel_rfl) (by kernel_rfl) (by kernel_rfl)
    (by rw [MakeChecks.laidMetH_plain _ _ _ (by kernel_rfl)]; exact laidMet_laidAll _ (by kernel_rfl) (by kernel_rfl)) ?_
  intro W base args ds gs before hval0 hW hsz0 hL hsh
  have hsz : (DataW.weightsEach Tryz.prog (Tryz.f6.params.toList ++ Rows.storeFullSpec.plain.varTypes Tryz.prog) (ds ++ gs)).all (· ≤ reachBytes) = true := hsz0
  have hval : ∀ (j : Nat) t v, Tryz.f6.params[j]? = some t → args[j]? = some v → Value.okWide Tryz.prog W .any base t v := hval0
  have hW' := hW
  obtain ⟨p, q, hA0, hV, rfl, _, _⟩ := hW
  have hA : DataW.TrodAll enc Tryz.prog W 0 (fun _ => true) true Tryz.f6.params.toList args.toList ds p := hA0
  rw [Tryz.params6] at hA hval hsz
  obtain ⟨v0, v1, d0, d1, p0, p1, rfl, rfl, rfl, h0, h1⟩ := trodAll_two hA
  obtain ⟨rfl, rfl⟩ := trodVars_none hV
  obtain ⟨n0, rfl, rfl, rfl, w0⟩ := open_int Tryz.underlying5 (hval 0 5 v0 rfl rfl) h0
  obtain ⟨k0, rfl, l0⟩ := wf_u8' w0
  obtain ⟨n1, rfl, rfl, rfl, w1⟩ := open_int Tryz.underlying5 (hval 1 5 v1 rfl rfl) h1
  obtain ⟨k1, rfl, l1⟩ := wf_u8' w1
  clear hA0 hval0 hsz0
  refine (storeFull_any append_said k0 k1 l0 l1 W).mono fun e W' ⟨he, hb⟩ => ⟨_, he, ?_⟩
  exact law_post Try.laidOut (by kernel_rfl) rfl rfl Tryz.underlying4 hW' rfl hb

theorem storeFull_named : Tryz.prog.funcNamed Rows.storeFullRow.func = some 6 := by kernel_rfl
theorem storeFull_named2 : Tryz.prog.funcNamed "pillarbox/pillarboxlaw18.StoreFull" = some 6 := storeFull_named
theorem storeFull_facts : joinedFacts Tryz.prog 6 Tryz.f6 Rows.storeFullSpec Rows.storeFullRow = true := by kernel_rfl
theorem storeFull_inst : Tryz.f6.isInstance Tryz.prog Rows.storeFullRow.origin Rows.storeFullRow.targs := of_decide_eq_true (by kernel_rfl)
theorem storeFull_wrap : Tryz.f6.isWrapper Tryz.prog Rows.storeFullRow.wrapper Rows.storeFullRow.mainSum := by unfold Func.isWrapper; rw [if_neg (of_decide_eq_false (by kernel_rfl))]; exact ⟨rfl, rfl⟩
theorem storeFull_wf : Rows.storeFullRow.wfByText (OpenSpec.ofChange Rows.storeFullSpec) = true := by kernel_rfl
theorem storeFull_main : Tryz.prog.mainIs = some (Rows.storeFullCard.stood.harness.1, Rows.storeFullCard.stood.harness.2.toList) := by kernel_rfl
theorem storeFull_looks : false = Tryz.prog.looks [] := by kernel_rfl
theorem storeFull_stand : ([5, 5].all fun u => !Tryz.prog.wantsStandIn u) = true := by kernel_rfl
theorem storeFull_goes : false = Rows.storeFullRow.goesBy Tryz.prog := by kernel_rfl

theorem storeFull_said : Rows.StoreFullSaid :=
  OpenClaim.holds_of_wide 6 Tryz.f6 rfl rfl rfl rfl rfl rfl rfl ⟨rfl, rfl, rfl, rfl, rfl⟩ rfl rfl rfl rfl rfl storeFull_named Tryz.func6 storeFull_facts
    storeFull_inst storeFull_wrap
    (fun os started H enc _ => storeFull_lifted os started H enc)

theorem storeFull_holds : Rows.StoreFullCardSaid :=
  Claim7.holds_tied_plain_at .later [] [.data, .pinned] true _ false storeFull_said (fun _ h => by cases h) storeFull_wf (fun _ h => by cases h) storeFull_row_tie rfl ⟨rfl, rfl⟩ storeFull_main rfl
    (fun f fn hf hfn => by
      obtain rfl : f = 6 := Option.some.inj (storeFull_named2.symm.trans hf) |>.symm
      obtain rfl : fn = Tryz.f6 := (Option.some.inj (Tryz.func6.symm.trans hfn)).symm
      exact ⟨storeFull_looks, fun j t ht => by
        rw [Tryz.params6] at ht
        have hm : t ∈ [5, 5] := by simpa using Array.mem_of_getElem? ht
        exact (show Tryz.prog.wantsStandIn t = false by simpa using List.all_eq_true.1 storeFull_stand t hm)⟩)
    storeFull_goes

#print axioms storeFull_holds

end Go.Proofs.YtmbibhphpjmboaaGreatDoor
