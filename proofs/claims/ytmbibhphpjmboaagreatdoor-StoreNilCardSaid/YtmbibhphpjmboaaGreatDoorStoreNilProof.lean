/-
  An account that there is not does nothing: pillarboxlaw18.StoreNil returns true for every input, and turns nothing. The card: the listed tables as the program's text lays them.
-/
import Derived.Test.YtmbibhphpjmboaaGreatDoorStoreNil
import Derived.Test.YtmbibhphpjmboaaGreatDoorAppendAll
import Derived.Test.YtmbibhphpjmboaaGreatDoorLawS
namespace Go.Proofs.YtmbibhphpjmboaaGreatDoor
open Go.RowKit Go.ChangeShapes Go.WideShapes Go.ChangeAt
open Go.ChangeMaps (open_string)

set_option maxRecDepth 100000 in
theorem storeNil_lifted (os : Os) (started : os.Started) (H : Type) (enc : TypeId × Value → H) :
    ReturnsInHanded {} Tryz.checked os 14 .any (fun w args => (Rows.storeNilSpec.pre enc Tryz.prog Tryz.f14 [] false w args ∧ laidMetH Tryz.prog Rows.storeNilRow.laid w) ∧ sizedMet enc Tryz.prog Tryz.f14 (OpenSpec.ofChange Rows.storeNilSpec) false w args)
      (Rows.storeNilSpec.post enc Tryz.prog Tryz.f14 false true false false) := by
  refine lifted_listed (C := Tryz.checked) (X := fun w => laidMetH Tryz.prog Rows.storeNilRow.laid w) (v0 := #[.string ⟨#[]⟩, .int .i64 0, .slice none 0 0, .slice none 0 0]) (fun _ _ hh h => h.of_heap hh) Try.own started (by kernel_rfl) Tryz.func14
    (World.laidAll Tryz.prog os Rows.storeNilRow.laid) 8 (World.laidAll_os _ _ _) (World.shaped_of_ZipB (by kernel_rfl) (by kernel_rfl)) (by kernel_rfl) (by kernel_rfl) (by kernel_rfl)
    (by rw [MakeChecks.laidMetH_plain _ _ _ (by kernel_rfl)]; exact laidMet_laidAll _ (by kernel_rfl) (by kernel_rfl)) ?_
  intro W base args ds gs before hval0 hW hsz0 hL hsh
  have hsz : (DataW.weightsEach Tryz.prog (Tryz.f14.params.toList ++ Rows.storeNilSpec.plain.varTypes Tryz.prog) (ds ++ gs)).all (· ≤ reachBytes) = true := hsz0
  have hval : ∀ (j : Nat) t v, Tryz.f14.params[j]? = some t → args[j]? = some v → Value.okWide Tryz.prog W .any base t v := hval0
  have hW' := hW
  obtain ⟨p, q, hA0, hV, rfl, _, _⟩ := hW
  have hA : DataW.TrodAll enc Tryz.prog W 0 (fun _ => true) true Tryz.f14.params.toList args.toList ds p := hA0
  rw [Tryz.params14] at hA hval hsz
  obtain ⟨v0, v1, v2, v3, d0, d1, d2, d3, p0, p1, p2, p3, rfl, rfl, rfl, h0, h1, h2, h3⟩ := trodAll_four hA
  obtain ⟨rfl, rfl⟩ := trodVars_none hV
  obtain ⟨s, rfl, rfl, rfl, ws⟩ := open_string Tryz.underlying9 (hval 0 9 v0 rfl rfl) h0
  obtain ⟨n1, rfl, rfl, rfl, w1⟩ := open_int Tryz.underlying3 (hval 1 3 v1 rfl rfl) h1
  clear hA0 hval0 hsz0
  refine (storeNil_any append_said s n1 v2 v3 W).mono fun e W' ⟨he, hb⟩ => ⟨_, he, ?_⟩
  exact law_post Try.laidOut (by kernel_rfl) rfl rfl Tryz.underlying4 hW' rfl hb

theorem storeNil_named : Tryz.prog.funcNamed Rows.storeNilRow.func = some 14 := by kernel_rfl
theorem storeNil_named2 : Tryz.prog.funcNamed "pillarbox/pillarboxlaw18.StoreNil" = some 14 := storeNil_named
theorem storeNil_facts : joinedFacts Tryz.prog 14 Tryz.f14 Rows.storeNilSpec Rows.storeNilRow = true := by kernel_rfl
theorem storeNil_inst : Tryz.f14.isInstance Tryz.prog Rows.storeNilRow.origin Rows.storeNilRow.targs := of_decide_eq_true (by kernel_rfl)
theorem storeNil_wrap : Tryz.f14.isWrapper Tryz.prog Rows.storeNilRow.wrapper Rows.storeNilRow.mainSum := by unfold Func.isWrapper; rw [if_neg (of_decide_eq_false (by kernel_rfl))]; exact ⟨rfl, rfl⟩
theorem storeNil_wf : Rows.storeNilRow.wfByText (OpenSpec.ofChange Rows.storeNilSpec) = true := by kernel_rfl
theorem storeNil_main : Tryz.prog.mainIs = some (Rows.storeNilCard.stood.harness.1, Rows.storeNilCard.stood.harness.2.toList) := by kernel_rfl
theorem storeNil_looks : false = Tryz.prog.looks [] := by kernel_rfl
theorem storeNil_stand : ([9, 3, 32, 37].all fun u => !Tryz.prog.wantsStandIn u) = true := by kernel_rfl
theorem storeNil_goes : false = Rows.storeNilRow.goesBy Tryz.prog := by kernel_rfl

theorem storeNil_said : Rows.StoreNilSaid :=
  OpenClaim.holds_of_wide 14 Tryz.f14 rfl rfl rfl rfl rfl rfl rfl ⟨rfl, rfl, rfl, rfl, rfl⟩ rfl rfl rfl rfl rfl storeNil_named Tryz.func14 storeNil_facts
    storeNil_inst storeNil_wrap
    (fun os started H enc _ => storeNil_lifted os started H enc)

theorem storeNil_holds : Rows.StoreNilCardSaid :=
  Claim7.holds_tied_plain_at .later [] [.data, .pinned] true _ false storeNil_said (fun _ h => by cases h) storeNil_wf (fun _ h => by cases h) storeNil_row_tie rfl ⟨rfl, rfl⟩ storeNil_main rfl
    (fun f fn hf hfn => by
      obtain rfl : f = 14 := Option.some.inj (storeNil_named2.symm.trans hf) |>.symm
      obtain rfl : fn = Tryz.f14 := (Option.some.inj (Tryz.func14.symm.trans hfn)).symm
      exact ⟨storeNil_looks, fun j t ht => by
        rw [Tryz.params14] at ht
        have hm : t ∈ [9, 3, 32, 37] := by simpa using Array.mem_of_getElem? ht
        exact (show Tryz.prog.wantsStandIn t = false by simpa using List.all_eq_true.1 storeNil_stand t hm)⟩)
    storeNil_goes

#print axioms storeNil_holds

end Go.Proofs.YtmbibhphpjmboaaGreatDoor
