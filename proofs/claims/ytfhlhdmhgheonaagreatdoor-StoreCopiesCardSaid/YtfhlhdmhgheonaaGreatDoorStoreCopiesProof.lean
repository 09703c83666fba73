/-
  A copy is the same, and another one; what was told can be spoilt: pillarboxlaw18.StoreCopies returns true for every input, and turns nothing. The card: the listed tables as the program's text lays them.
-/
import Derived.Test.YtfhlhdmhgheonaaGreatDoorGCW
import Derived.Test.YtfhlhdmhgheonaaGreatDoorGV
import Derived.Test.YtfhlhdmhgheonaaGreatDoorGLW
namespace Go.Proofs.YtfhlhdmhgheonaaGreatDoor
open Go.RowKit Go.ChangeShapes Go.WideShapes Go.ChangeAt
open Go.ChangeMaps (open_string)
set_option maxRecDepth 100000 in
theorem storeCopies_lifted (os : Os) (started : os.Started) (H : Type) (enc : TypeId × Value → H) :
    ReturnsInHanded {} Tryz.checked os 4 .any (fun w args => (Rows.storeCopiesSpec.pre enc Tryz.prog Tryz.f4 [] false w args ∧ laidMetH Tryz.prog Rows.storeCopiesRow.laid w) ∧ sizedMet enc Tryz.prog Tryz.f4 (OpenSpec.ofChange Rows.storeCopiesSpec) false w args)
      (Rows.storeCopiesSpec.post enc Tryz.prog Tryz.f4 false true false false) := by
  refine Y7 (C := Tryz.checked) (X := fun w => laidMetH Tryz.prog Rows.storeCopiesRow.laid w) (v0 := #[.slice none 0 0, .slice none 0 0]) (fun _ _ hh h => h.of_heap hh) Try.own started (by kernel_rfl) Tryz.func4
    (World.laidAll Tryz.prog os Rows.storeCopiesRow.laid) 8 (World.laidAll_os _ _ _) (World.shaped_of_ZipB (by kernel_rfl) (by kernel_rfl)) (by kernel_rfl) (by kernel_rfl) (by kernel_rfl)
    (by rw [MakeChecks.laidMetH_plain _ _ _ (by kernel_rfl)]; exact laidMet_laidAll _ (by kernel_rfl) (by kernel_rfl)) ?_
  intro W base args ds gs before hval0 hW hsz0 hL hsh
  have hsz : (DataW.weightsEach Tryz.prog (Tryz.f4.params.toList ++ Rows.storeCopiesSpec.plain.varTypes Tryz.prog) (ds ++ gs)).all (· ≤ reachBytes) = true := hsz0
  have hval : ∀ (j : Nat) t v, Tryz.f4.params[j]? = some t → args[j]? = some v → Value.okWide Tryz.prog W .any base t v := hval0
  have hW' := hW
  obtain ⟨p, q, hA0, hV, rfl, _, _⟩ := hW
  have hA : DataW.TrodAll enc Tryz.prog W 0 (fun _ => true) true Tryz.f4.params.toList args.toList ds p := hA0
  rw [Tryz.params4] at hA hval hsz
  obtain ⟨v0, v1, d0, d1, p0, p1, rfl, rfl, rfl, h0, h1⟩ := trodAll_two hA
  obtain ⟨rfl, rfl⟩ := trodVars_none hV
  obtain ⟨fuel0, hf0⟩ := h0
  have hc0 : ∃ A n cap, v0 = .slice A n cap := okWide_slice Tryz.underlying22 (hval 0 22 v0 rfl rfl)
  obtain ⟨A0, n0, cap0, rfl⟩ := hc0
  obtain ⟨acts0, hr0, ha0⟩ := zaf hf0
  obtain ⟨fuel1, hf1⟩ := h1
  have hc1 : ∃ A n cap, v1 = .slice A n cap := okWide_slice Tryz.underlying22 (hval 1 22 v1 rfl rfl)
  obtain ⟨A1, n1, cap1, rfl⟩ := hc1
  obtain ⟨acts1, hr1, ha1⟩ := zaf hf1
  clear hA0 hval0 hsz0
  refine (VI _ _ acts0 acts1 W hr0 ha0 hr1 ha1).mono fun e W' ⟨he, hb⟩ => ⟨_, he, ?_⟩
  exact zaT Try.laidOut (by kernel_rfl) rfl rfl Tryz.underlying4 hW' rfl hb
theorem storeCopies_named : Tryz.prog.funcNamed Rows.storeCopiesRow.func = some 4 := by kernel_rfl
theorem storeCopies_named2 : Tryz.prog.funcNamed "pillarbox/pillarboxlaw18.StoreCopies" = some 4 := storeCopies_named
theorem storeCopies_j0 : Jn.j0 Tryz.prog 4 Tryz.f4 Rows.storeCopiesSpec Rows.storeCopiesRow = true := by kernel_rfl
theorem storeCopies_j1 : Jn.j1 Tryz.prog 4 Tryz.f4 Rows.storeCopiesSpec Rows.storeCopiesRow = true := by kernel_rfl
theorem storeCopies_j2 : Jn.j2 Tryz.prog 4 Tryz.f4 Rows.storeCopiesSpec Rows.storeCopiesRow = true := by kernel_rfl
theorem storeCopies_j3 : Jn.j3 Tryz.prog 4 Tryz.f4 Rows.storeCopiesSpec Rows.storeCopiesRow = true := by kernel_rfl
theorem storeCopies_j4 : Jn.j4 Tryz.prog 4 Tryz.f4 Rows.storeCopiesSpec Rows.storeCopiesRow = true := by kernel_rfl
theorem storeCopies_j5 : Jn.j5 Tryz.prog 4 Tryz.f4 Rows.storeCopiesSpec Rows.storeCopiesRow = true := by kernel_rfl
theorem storeCopies_j6 : Jn.j6 Tryz.prog 4 Tryz.f4 Rows.storeCopiesSpec Rows.storeCopiesRow = true := by kernel_rfl
theorem storeCopies_j7 : Jn.j7 Tryz.prog 4 Tryz.f4 Rows.storeCopiesSpec Rows.storeCopiesRow = true := by kernel_rfl
theorem storeCopies_j8 : Jn.j8 Tryz.prog 4 Tryz.f4 Rows.storeCopiesSpec Rows.storeCopiesRow = true := by kernel_rfl
theorem storeCopies_j9 : Jn.j9 Tryz.prog 4 Tryz.f4 Rows.storeCopiesSpec Rows.storeCopiesRow = true := by kernel_rfl
theorem storeCopies_j10 : Jn.j10 Tryz.prog 4 Tryz.f4 Rows.storeCopiesSpec Rows.storeCopiesRow = true := by kernel_rfl
theorem storeCopies_j11 : Jn.j11 Tryz.prog 4 Tryz.f4 Rows.storeCopiesSpec Rows.storeCopiesRow = true := by kernel_rfl
theorem storeCopies_j12 : Jn.j12 Tryz.prog 4 Tryz.f4 Rows.storeCopiesSpec Rows.storeCopiesRow = true := by kernel_rfl
theorem storeCopies_j13 : Jn.j13 Tryz.prog 4 Tryz.f4 Rows.storeCopiesSpec Rows.storeCopiesRow = true := by kernel_rfl
theorem storeCopies_j14 : Jn.j14 Tryz.prog 4 Tryz.f4 Rows.storeCopiesSpec Rows.storeCopiesRow = true := by kernel_rfl
theorem storeCopies_j15 : Jn.j15 Tryz.prog 4 Tryz.f4 Rows.storeCopiesSpec Rows.storeCopiesRow = true := by kernel_rfl
theorem storeCopies_j16 : Jn.j16 Tryz.prog 4 Tryz.f4 Rows.storeCopiesSpec Rows.storeCopiesRow = true := by kernel_rfl
theorem storeCopies_j17 : Jn.j17 Tryz.prog 4 Tryz.f4 Rows.storeCopiesSpec Rows.storeCopiesRow = true := by kernel_rfl
theorem storeCopies_j18 : Jn.j18 Tryz.prog 4 Tryz.f4 Rows.storeCopiesSpec Rows.storeCopiesRow = true := by kernel_rfl
theorem storeCopies_j19 : Jn.j19 Tryz.prog 4 Tryz.f4 Rows.storeCopiesSpec Rows.storeCopiesRow = true := by kernel_rfl
theorem storeCopies_j20 : Jn.j20 Tryz.prog 4 Tryz.f4 Rows.storeCopiesSpec Rows.storeCopiesRow = true := by kernel_rfl
theorem storeCopies_j21 : Jn.j21 Tryz.prog 4 Tryz.f4 Rows.storeCopiesSpec Rows.storeCopiesRow = true := by kernel_rfl
theorem storeCopies_j22 : Jn.j22 Tryz.prog 4 Tryz.f4 Rows.storeCopiesSpec Rows.storeCopiesRow = true := by kernel_rfl
theorem storeCopies_j23 : Jn.j23 Tryz.prog 4 Tryz.f4 Rows.storeCopiesSpec Rows.storeCopiesRow = true := by kernel_rfl
theorem storeCopies_j24 : Jn.j24 Tryz.prog 4 Tryz.f4 Rows.storeCopiesSpec Rows.storeCopiesRow = true := by kernel_rfl
theorem storeCopies_j25 : Jn.j25 Tryz.prog 4 Tryz.f4 Rows.storeCopiesSpec Rows.storeCopiesRow = true := by kernel_rfl
theorem storeCopies_j26 : Jn.j26 Tryz.prog 4 Tryz.f4 Rows.storeCopiesSpec Rows.storeCopiesRow = true := by kernel_rfl
theorem storeCopies_j27 : Jn.j27 Tryz.prog 4 Tryz.f4 Rows.storeCopiesSpec Rows.storeCopiesRow = true := by kernel_rfl
theorem storeCopies_j28 : Jn.j28 Tryz.prog 4 Tryz.f4 Rows.storeCopiesSpec Rows.storeCopiesRow = true := by kernel_rfl
theorem storeCopies_j29 : Jn.j29 Tryz.prog 4 Tryz.f4 Rows.storeCopiesSpec Rows.storeCopiesRow = true := by kernel_rfl
theorem storeCopies_j30 : Jn.j30 Tryz.prog 4 Tryz.f4 Rows.storeCopiesSpec Rows.storeCopiesRow = true := by kernel_rfl
theorem storeCopies_j31 : Jn.j31 Tryz.prog 4 Tryz.f4 Rows.storeCopiesSpec Rows.storeCopiesRow = true := by kernel_rfl
theorem storeCopies_facts : joinedFacts Tryz.prog 4 Tryz.f4 Rows.storeCopiesSpec Rows.storeCopiesRow = true := JY storeCopies_j0 storeCopies_j1 storeCopies_j2 storeCopies_j3 storeCopies_j4 storeCopies_j5 storeCopies_j6 storeCopies_j7 storeCopies_j8 storeCopies_j9 storeCopies_j10 storeCopies_j11 storeCopies_j12 storeCopies_j13 storeCopies_j14 storeCopies_j15 storeCopies_j16 storeCopies_j17 storeCopies_j18 storeCopies_j19 storeCopies_j20 storeCopies_j21 storeCopies_j22 storeCopies_j23 storeCopies_j24 storeCopies_j25 storeCopies_j26 storeCopies_j27 storeCopies_j28 storeCopies_j29 storeCopies_j30 storeCopies_j31
theorem storeCopies_inst : Tryz.f4.isInstance Tryz.prog Rows.storeCopiesRow.origin Rows.storeCopiesRow.targs := of_decide_eq_true (by kernel_rfl)
theorem storeCopies_wrap : Tryz.f4.isWrapper Tryz.prog Rows.storeCopiesRow.wrapper Rows.storeCopiesRow.mainSum := by unfold Func.isWrapper; rw [if_neg (of_decide_eq_false (by kernel_rfl))]; exact ⟨rfl, rfl⟩
theorem storeCopies_wf : Rows.storeCopiesRow.wfByText (OpenSpec.ofChange Rows.storeCopiesSpec) = true := by kernel_rfl
theorem storeCopies_main : Tryz.prog.mainIs = some (Rows.storeCopiesCard.stood.harness.1, Rows.storeCopiesCard.stood.harness.2.toList) := by kernel_rfl
theorem storeCopies_looks : false = Tryz.prog.looks [] := by kernel_rfl
theorem storeCopies_stand : ([22, 22].all fun u => !Tryz.prog.wantsStandIn u) = true := by kernel_rfl
theorem storeCopies_goes : false = Rows.storeCopiesRow.goesBy Tryz.prog := by kernel_rfl
theorem storeCopies_said : Rows.StoreCopiesSaid :=
  OpenClaim.holds_of_wide 4 Tryz.f4 rfl rfl rfl rfl rfl rfl rfl ⟨rfl, rfl, rfl, rfl, rfl⟩ rfl rfl rfl rfl rfl storeCopies_named Tryz.func4 storeCopies_facts
    storeCopies_inst storeCopies_wrap
    (fun os started H enc _ => storeCopies_lifted os started H enc)
theorem storeCopies_holds : Rows.StoreCopiesCardSaid :=
  Claim7.holds_tied_plain_at .later [] [.data, .pinned] true _ false storeCopies_said (fun _ h => by cases h) storeCopies_wf (fun _ h => by cases h) storeCopies_row_tie rfl ⟨rfl, rfl⟩ storeCopies_main rfl
    (fun f fn hf hfn => by
      obtain rfl : f = 4 := Option.some.inj (storeCopies_named2.symm.trans hf) |>.symm
      obtain rfl : fn = Tryz.f4 := (Option.some.inj (Tryz.func4.symm.trans hfn)).symm
      exact ⟨storeCopies_looks, fun j t ht => by
        rw [Tryz.params4] at ht
        have hm : t ∈ [22, 22] := by simpa using Array.mem_of_getElem? ht
        exact (show Tryz.prog.wantsStandIn t = false by simpa using List.all_eq_true.1 storeCopies_stand t hm)⟩)
    storeCopies_goes
#print axioms storeCopies_holds
end Go.Proofs.YtfhlhdmhgheonaaGreatDoor
