/-
  Whether any config makes an account, and what is in it, is the document's: pillarboxlaw18.StoreNews returns true for every input, and turns nothing. The card: the listed tables as the program's text lays them.
-/
import Derived.Test.YtmbibhphpjmboaaGreatDoorNewsWM
import Derived.Test.YtmbibhphpjmboaaGreatDoorGH
import Derived.Test.YtmbibhphpjmboaaGreatDoorConfigInM
import Derived.Test.YtmbibhphpjmboaaGreatDoorLawSM
import Derived.Test.YtmbibhphpjmboaaGreatDoorJoinM
namespace Go.Proofs.YtmbibhphpjmboaaGreatDoor
open Go.RowKit Go.ChangeShapes Go.WideShapes Go.ChangeAt
open Go.ChangeMaps (open_string)

set_option maxRecDepth 100000 in
theorem storeNews_lifted (os : Os) (started : os.Started) (H : Type) (enc : TypeId × Value → H) :
    ReturnsInHanded {} Tryz.checked os 4 .any (fun w args => (Rows.storeNewsSpec.pre enc Tryz.prog Tryz.f4 [] false w args ∧ laidMetH Tryz.prog Rows.storeNewsRow.laid w) ∧ sizedMet enc Tryz.prog Tryz.f4 (OpenSpec.ofChange Rows.storeNewsSpec) false w args)
      (Rows.storeNewsSpec.post enc Tryz.prog Tryz.f4 false true false false) := by
  refine lifted_listed (C := Tryz.checked) (X := fun w => laidMetH Tryz.prog Rows.storeNewsRow.laid w) (v0 := #[.agg #[.string ⟨#[]⟩, .string ⟨#[]⟩, .int .i64 0, .int .i64 0, .int .i64 0, .int .i64 0, .int .i64 0, .int .i64 0, .int .i64 0]]) (fun _ _ hh h => h.of_heap hh) Try.own started (by kernel_rfl) Tryz.func4
    (World.laidAll Tryz.prog os Rows.storeNewsRow.laid) 8 (World.laidAll_os _ _ _) (World.shaped_of_ZipB (by kernel_rfl) (by kernel_rfl)) (by kernel_rfl) (by kernel_rfl) (by kernel_rfl)
    (by rw [MakeChecks.laidMetH_plain _ _ _ (by kernel_rfl)]; exact laidMet_laidAll _ (by kernel_rfl) (by kernel_rfl)) ?_
  intro W base args ds gs before hval0 hW hsz0 hL hsh
  have hsz : (DataW.weightsEach Tryz.prog (Tryz.f4.params.toList ++ Rows.storeNewsSpec.plain.varTypes Tryz.prog) (ds ++ gs)).all (· ≤ reachBytes) = true := hsz0
  have hval : ∀ (j : Nat) t v, Tryz.f4.params[j]? = some t → args[j]? = some v → Value.okWide Tryz.prog W .any base t v := hval0
  have hW' := hW
  obtain ⟨p, q, hA0, hV, rfl, _, _⟩ := hW
  have hA : DataW.TrodAll enc Tryz.prog W 0 (fun _ => true) true Tryz.f4.params.toList args.toList ds p := hA0
  rw [Tryz.params4] at hA hval hsz
  obtain ⟨v0, d0, rfl, rfl, h0⟩ := trodAll_one hA
  obtain ⟨rfl, rfl⟩ := trodVars_none hV
  obtain ⟨fuel0, hf0⟩ := h0
  obtain ⟨cs0, rfl, hs0⟩ := okWide_struct Tryz.underlying29 (hval 0 29 v0 rfl rfl)
  obtain ⟨u0, q0, m1, m2, m3, m4, m5, m6, m7, rfl⟩ := cfg_in hs0 hf0
  clear hA0 hval0 hsz0
  refine (storeNews_any append_said u0 q0 m1 m2 m3 m4 m5 m6 m7 W).mono fun e W' ⟨he, hb⟩ => ⟨_, he, ?_⟩
  exact law_post Try.laidOut (by kernel_rfl) rfl rfl Tryz.underlying4 hW' rfl hb

theorem storeNews_named : Tryz.prog.funcNamed Rows.storeNewsRow.func = some 4 := by kernel_rfl
theorem storeNews_named2 : Tryz.prog.funcNamed "pillarbox/pillarboxlaw18.StoreNews" = some 4 := storeNews_named
theorem storeNews_j0 : Jn.j0 Tryz.prog 4 Tryz.f4 Rows.storeNewsSpec Rows.storeNewsRow = true := by kernel_rfl
theorem storeNews_j1 : Jn.j1 Tryz.prog 4 Tryz.f4 Rows.storeNewsSpec Rows.storeNewsRow = true := by kernel_rfl
theorem storeNews_j2 : Jn.j2 Tryz.prog 4 Tryz.f4 Rows.storeNewsSpec Rows.storeNewsRow = true := by kernel_rfl
theorem storeNews_j3 : Jn.j3 Tryz.prog 4 Tryz.f4 Rows.storeNewsSpec Rows.storeNewsRow = true := by kernel_rfl
theorem storeNews_j4 : Jn.j4 Tryz.prog 4 Tryz.f4 Rows.storeNewsSpec Rows.storeNewsRow = true := by kernel_rfl
theorem storeNews_j5 : Jn.j5 Tryz.prog 4 Tryz.f4 Rows.storeNewsSpec Rows.storeNewsRow = true := by kernel_rfl
theorem storeNews_j6 : Jn.j6 Tryz.prog 4 Tryz.f4 Rows.storeNewsSpec Rows.storeNewsRow = true := by kernel_rfl
theorem storeNews_j7 : Jn.j7 Tryz.prog 4 Tryz.f4 Rows.storeNewsSpec Rows.storeNewsRow = true := by kernel_rfl
theorem storeNews_j8 : Jn.j8 Tryz.prog 4 Tryz.f4 Rows.storeNewsSpec Rows.storeNewsRow = true := by kernel_rfl
theorem storeNews_j9 : Jn.j9 Tryz.prog 4 Tryz.f4 Rows.storeNewsSpec Rows.storeNewsRow = true := by kernel_rfl
theorem storeNews_j10 : Jn.j10 Tryz.prog 4 Tryz.f4 Rows.storeNewsSpec Rows.storeNewsRow = true := by kernel_rfl
theorem storeNews_j11 : Jn.j11 Tryz.prog 4 Tryz.f4 Rows.storeNewsSpec Rows.storeNewsRow = true := by kernel_rfl
theorem storeNews_j12 : Jn.j12 Tryz.prog 4 Tryz.f4 Rows.storeNewsSpec Rows.storeNewsRow = true := by kernel_rfl
theorem storeNews_j13 : Jn.j13 Tryz.prog 4 Tryz.f4 Rows.storeNewsSpec Rows.storeNewsRow = true := by kernel_rfl
theorem storeNews_j14 : Jn.j14 Tryz.prog 4 Tryz.f4 Rows.storeNewsSpec Rows.storeNewsRow = true := by kernel_rfl
theorem storeNews_j15 : Jn.j15 Tryz.prog 4 Tryz.f4 Rows.storeNewsSpec Rows.storeNewsRow = true := by kernel_rfl
theorem storeNews_j16 : Jn.j16 Tryz.prog 4 Tryz.f4 Rows.storeNewsSpec Rows.storeNewsRow = true := by kernel_rfl
theorem storeNews_j17 : Jn.j17 Tryz.prog 4 Tryz.f4 Rows.storeNewsSpec Rows.storeNewsRow = true := by kernel_rfl
theorem storeNews_j18 : Jn.j18 Tryz.prog 4 Tryz.f4 Rows.storeNewsSpec Rows.storeNewsRow = true := by kernel_rfl
theorem storeNews_j19 : Jn.j19 Tryz.prog 4 Tryz.f4 Rows.storeNewsSpec Rows.storeNewsRow = true := by kernel_rfl
theorem storeNews_j20 : Jn.j20 Tryz.prog 4 Tryz.f4 Rows.storeNewsSpec Rows.storeNewsRow = true := by kernel_rfl
theorem storeNews_j21 : Jn.j21 Tryz.prog 4 Tryz.f4 Rows.storeNewsSpec Rows.storeNewsRow = true := by kernel_rfl
theorem storeNews_j22 : Jn.j22 Tryz.prog 4 Tryz.f4 Rows.storeNewsSpec Rows.storeNewsRow = true := by kernel_rfl
theorem storeNews_j23 : Jn.j23 Tryz.prog 4 Tryz.f4 Rows.storeNewsSpec Rows.storeNewsRow = true := by kernel_rfl
theorem storeNews_j24 : Jn.j24 Tryz.prog 4 Tryz.f4 Rows.storeNewsSpec Rows.storeNewsRow = true := by kernel_rfl
theorem storeNews_j25 : Jn.j25 Tryz.prog 4 Tryz.f4 Rows.storeNewsSpec Rows.storeNewsRow = true := by kernel_rfl
theorem storeNews_j26 : Jn.j26 Tryz.prog 4 Tryz.f4 Rows.storeNewsSpec Rows.storeNewsRow = true := by kernel_rfl
theorem storeNews_j27 : Jn.j27 Tryz.prog 4 Tryz.f4 Rows.storeNewsSpec Rows.storeNewsRow = true := by kernel_rfl
theorem storeNews_j28 : Jn.j28 Tryz.prog 4 Tryz.f4 Rows.storeNewsSpec Rows.storeNewsRow = true := by kernel_rfl
theorem storeNews_j29 : Jn.j29 Tryz.prog 4 Tryz.f4 Rows.storeNewsSpec Rows.storeNewsRow = true := by kernel_rfl
theorem storeNews_j30 : Jn.j30 Tryz.prog 4 Tryz.f4 Rows.storeNewsSpec Rows.storeNewsRow = true := by kernel_rfl
theorem storeNews_j31 : Jn.j31 Tryz.prog 4 Tryz.f4 Rows.storeNewsSpec Rows.storeNewsRow = true := by kernel_rfl
theorem storeNews_facts : joinedFacts Tryz.prog 4 Tryz.f4 Rows.storeNewsSpec Rows.storeNewsRow = true := joined_of storeNews_j0 storeNews_j1 storeNews_j2 storeNews_j3 storeNews_j4 storeNews_j5 storeNews_j6 storeNews_j7 storeNews_j8 storeNews_j9 storeNews_j10 storeNews_j11 storeNews_j12 storeNews_j13 storeNews_j14 storeNews_j15 storeNews_j16 storeNews_j17 storeNews_j18 storeNews_j19 storeNews_j20 storeNews_j21 storeNews_j22 storeNews_j23 storeNews_j24 storeNews_j25 storeNews_j26 storeNews_j27 storeNews_j28 storeNews_j29 storeNews_j30 storeNews_j31
theorem storeNews_inst : Tryz.f4.isInstance Tryz.prog Rows.storeNewsRow.origin Rows.storeNewsRow.targs := of_decide_eq_true (by kernel_rfl)
theorem storeNews_wrap : Tryz.f4.isWrapper Tryz.prog Rows.storeNewsRow.wrapper Rows.storeNewsRow.mainSum := by unfold Func.isWrapper; rw [if_neg (of_decide_eq_false (by kernel_rfl))]; exact ⟨rfl, rfl⟩
theorem storeNews_wf : Rows.storeNewsRow.wfByText (OpenSpec.ofChange Rows.storeNewsSpec) = true := by kernel_rfl
theorem storeNews_main : Tryz.prog.mainIs = some (Rows.storeNewsCard.stood.harness.1, Rows.storeNewsCard.stood.harness.2.toList) := by kernel_rfl
theorem storeNews_looks : false = Tryz.prog.looks [] := by kernel_rfl
theorem storeNews_stand : ([29].all fun u => !Tryz.prog.wantsStandIn u) = true := by kernel_rfl
theorem storeNews_goes : false = Rows.storeNewsRow.goesBy Tryz.prog := by kernel_rfl

theorem storeNews_said : Rows.StoreNewsSaid :=
  OpenClaim.holds_of_wide 4 Tryz.f4 rfl rfl rfl rfl rfl rfl rfl ⟨rfl, rfl, rfl, rfl, rfl⟩ rfl rfl rfl rfl rfl storeNews_named Tryz.func4 storeNews_facts
    storeNews_inst storeNews_wrap
    (fun os started H enc _ => storeNews_lifted os started H enc)

theorem storeNews_holds : Rows.StoreNewsCardSaid :=
  Claim7.holds_tied_plain_at .later [] [.data, .pinned] true _ false storeNews_said (fun _ h => by cases h) storeNews_wf (fun _ h => by cases h) storeNews_row_tie rfl ⟨rfl, rfl⟩ storeNews_main rfl
    (fun f fn hf hfn => by
      obtain rfl : f = 4 := Option.some.inj (storeNews_named2.symm.trans hf) |>.symm
      obtain rfl : fn = Tryz.f4 := (Option.some.inj (Tryz.func4.symm.trans hfn)).symm
      exact ⟨storeNews_looks, fun j t ht => by
        rw [Tryz.params4] at ht
        have hm : t ∈ [29] := by simpa using Array.mem_of_getElem? ht
        exact (show Tryz.prog.wantsStandIn t = false by simpa using List.all_eq_true.1 storeNews_stand t hm)⟩)
    storeNews_goes

#print axioms storeNews_holds

end Go.Proofs.YtmbibhphpjmboaaGreatDoor
