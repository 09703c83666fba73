/-
  What is refused, and what changes nothing, leaves the account as it was; each other step makes the clock go on by one: pillarboxlaw18.StoreRefuses returns true for every input, and turns nothing. The card: the listed tables as the program's text lays them.
-/
import Derived.Test.YtmbibhphpjmboaaGreatDoorRefusesWM
import Derived.Test.YtmbibhphpjmboaaGreatDoorPlaceAllM
import Derived.Test.YtmbibhphpjmboaaGreatDoorGH
import Derived.Test.YtmbibhphpjmboaaGreatDoorGV
import Derived.Test.YtmbibhphpjmboaaGreatDoorLawS6M
import Derived.Test.YtmbibhphpjmboaaGreatDoorJoinM
namespace Go.Proofs.YtmbibhphpjmboaaGreatDoor
open Go.RowKit Go.ChangeShapes Go.WideShapes Go.ChangeAt
open Go.ChangeMaps (open_string)

set_option maxRecDepth 100000 in
theorem storeRefuses_lifted (os : Os) (started : os.Started) (H : Type) (enc : TypeId × Value → H) :
    ReturnsInHanded {} Tryz.checked os 9 .any (fun w args => (Rows.storeRefusesSpec.pre enc Tryz.prog Tryz.f9 [] false w args ∧ laidMetH Tryz.prog Rows.storeRefusesRow.laid w) ∧ sizedMet enc Tryz.prog Tryz.f9 (OpenSpec.ofChange Rows.storeRefusesSpec) false w args)
      (Rows.storeRefusesSpec.post enc Tryz.prog Tryz.f9 false true false false) := by
  refine lifted_listed (C := Tryz.checked) (X := fun w => laidMetH Tryz.prog Rows.storeRefusesRow.laid w) (v0 := #[.int .u8 0, .int .u8 0, .int .u8 0, .int .u8 0, .int .u8 0, .slice none 0 0]) (fun _ _ hh h => h.of_heap hh) Try.own started (by kernel_rfl) Tryz.func9
    (World.laidAll Tryz.prog os Rows.storeRefusesRow.laid) 8 (World.laidAll_os _ _ _) (World.shaped_of_ZipB (by kernel_rfl) (by kernel_rfl)) (by kernel_rfl) (by kernel_rfl) (by kernel_rfl)
    (by rw [MakeChecks.laidMetH_plain _ _ _ (by kernel_rfl)]; exact laidMet_laidAll _ (by kernel_rfl) (by kernel_rfl)) ?_
  intro W base args ds gs before hval0 hW hsz0 hL hsh
  have hsz : (DataW.weightsEach Tryz.prog (Tryz.f9.params.toList ++ Rows.storeRefusesSpec.plain.varTypes Tryz.prog) (ds ++ gs)).all (· ≤ reachBytes) = true := hsz0
  have hval : ∀ (j : Nat) t v, Tryz.f9.params[j]? = some t → args[j]? = some v → Value.okWide Tryz.prog W .any base t v := hval0
  have hW' := hW
  obtain ⟨p, q, hA0, hV, rfl, _, _⟩ := hW
  have hA : DataW.TrodAll enc Tryz.prog W 0 (fun _ => true) true Tryz.f9.params.toList args.toList ds p := hA0
  rw [Tryz.params9] at hA hval hsz
  obtain ⟨v0, v1, v2, v3, v4, v5, d0, d1, d2, d3, d4, d5, p0, p1, p2, p3, p4, p5, rfl, rfl, rfl, h0, h1, h2, h3, h4, h5⟩ := trodAll_six hA
  obtain ⟨rfl, rfl⟩ := trodVars_none hV
  obtain ⟨n0, rfl, rfl, rfl, w0⟩ := open_int Tryz.underlying5 (hval 0 5 v0 rfl rfl) h0
  obtain ⟨k0, rfl, l0⟩ := wf_u8' w0
  obtain ⟨n1, rfl, rfl, rfl, w1⟩ := open_int Tryz.underlying5 (hval 1 5 v1 rfl rfl) h1
  obtain ⟨k1, rfl, l1⟩ := wf_u8' w1
  obtain ⟨n2, rfl, rfl, rfl, w2⟩ := open_int Tryz.underlying5 (hval 2 5 v2 rfl rfl) h2
  obtain ⟨k2, rfl, l2⟩ := wf_u8' w2
  obtain ⟨n3, rfl, rfl, rfl, w3⟩ := open_int Tryz.underlying5 (hval 3 5 v3 rfl rfl) h3
  obtain ⟨k3, rfl, l3⟩ := wf_u8' w3
  obtain ⟨n4, rfl, rfl, rfl, w4⟩ := open_int Tryz.underlying5 (hval 4 5 v4 rfl rfl) h4
  obtain ⟨k4, rfl, l4⟩ := wf_u8' w4
  obtain ⟨fuel5, hf5⟩ := h5
  have hc5 : ∃ A n cap, v5 = .slice A n cap := okWide_slice Tryz.underlying61 (hval 5 61 v5 rfl rfl)
  obtain ⟨A5, n5, cap5, rfl⟩ := hc5
  obtain ⟨acts5, hr5, ha5⟩ := acts_in hf5
  clear hA0 hval0 hsz0
  refine (storeRefuses_any append_said place_said k0 k1 k2 k3 k4 l0 l1 l2 l3 l4 _ acts5 W hr5 ha5).mono fun e W' ⟨he, hb⟩ => ⟨_, he, ?_⟩
  exact law_post Try.laidOut (by kernel_rfl) rfl rfl Tryz.underlying4 hW' rfl hb

theorem storeRefuses_named : Tryz.prog.funcNamed Rows.storeRefusesRow.func = some 9 := by kernel_rfl
theorem storeRefuses_named2 : Tryz.prog.funcNamed "pillarbox/pillarboxlaw18.StoreRefuses" = some 9 := storeRefuses_named
theorem storeRefuses_j0 : Jn.j0 Tryz.prog 9 Tryz.f9 Rows.storeRefusesSpec Rows.storeRefusesRow = true := by kernel_rfl
theorem storeRefuses_j1 : Jn.j1 Tryz.prog 9 Tryz.f9 Rows.storeRefusesSpec Rows.storeRefusesRow = true := by kernel_rfl
theorem storeRefuses_j2 : Jn.j2 Tryz.prog 9 Tryz.f9 Rows.storeRefusesSpec Rows.storeRefusesRow = true := by kernel_rfl
theorem storeRefuses_j3 : Jn.j3 Tryz.prog 9 Tryz.f9 Rows.storeRefusesSpec Rows.storeRefusesRow = true := by kernel_rfl
theorem storeRefuses_j4 : Jn.j4 Tryz.prog 9 Tryz.f9 Rows.storeRefusesSpec Rows.storeRefusesRow = true := by kernel_rfl
theorem storeRefuses_j5 : Jn.j5 Tryz.prog 9 Tryz.f9 Rows.storeRefusesSpec Rows.storeRefusesRow = true := by kernel_rfl
theorem storeRefuses_j6 : Jn.j6 Tryz.prog 9 Tryz.f9 Rows.storeRefusesSpec Rows.storeRefusesRow = true := by kernel_rfl
theorem storeRefuses_j7 : Jn.j7 Tryz.prog 9 Tryz.f9 Rows.storeRefusesSpec Rows.storeRefusesRow = true := by kernel_rfl
theorem storeRefuses_j8 : Jn.j8 Tryz.prog 9 Tryz.f9 Rows.storeRefusesSpec Rows.storeRefusesRow = true := by kernel_rfl
theorem storeRefuses_j9 : Jn.j9 Tryz.prog 9 Tryz.f9 Rows.storeRefusesSpec Rows.storeRefusesRow = true := by kernel_rfl
theorem storeRefuses_j10 : Jn.j10 Tryz.prog 9 Tryz.f9 Rows.storeRefusesSpec Rows.storeRefusesRow = true := by kernel_rfl
theorem storeRefuses_j11 : Jn.j11 Tryz.prog 9 Tryz.f9 Rows.storeRefusesSpec Rows.storeRefusesRow = true := by kernel_rfl
theorem storeRefuses_j12 : Jn.j12 Tryz.prog 9 Tryz.f9 Rows.storeRefusesSpec Rows.storeRefusesRow = true := by kernel_rfl
theorem storeRefuses_j13 : Jn.j13 Tryz.prog 9 Tryz.f9 Rows.storeRefusesSpec Rows.storeRefusesRow = true := by kernel_rfl
theorem storeRefuses_j14 : Jn.j14 Tryz.prog 9 Tryz.f9 Rows.storeRefusesSpec Rows.storeRefusesRow = true := by kernel_rfl
theorem storeRefuses_j15 : Jn.j15 Tryz.prog 9 Tryz.f9 Rows.storeRefusesSpec Rows.storeRefusesRow = true := by kernel_rfl
theorem storeRefuses_j16 : Jn.j16 Tryz.prog 9 Tryz.f9 Rows.storeRefusesSpec Rows.storeRefusesRow = true := by kernel_rfl
theorem storeRefuses_j17 : Jn.j17 Tryz.prog 9 Tryz.f9 Rows.storeRefusesSpec Rows.storeRefusesRow = true := by kernel_rfl
theorem storeRefuses_j18 : Jn.j18 Tryz.prog 9 Tryz.f9 Rows.storeRefusesSpec Rows.storeRefusesRow = true := by kernel_rfl
theorem storeRefuses_j19 : Jn.j19 Tryz.prog 9 Tryz.f9 Rows.storeRefusesSpec Rows.storeRefusesRow = true := by kernel_rfl
theorem storeRefuses_j20 : Jn.j20 Tryz.prog 9 Tryz.f9 Rows.storeRefusesSpec Rows.storeRefusesRow = true := by kernel_rfl
theorem storeRefuses_j21 : Jn.j21 Tryz.prog 9 Tryz.f9 Rows.storeRefusesSpec Rows.storeRefusesRow = true := by kernel_rfl
theorem storeRefuses_j22 : Jn.j22 Tryz.prog 9 Tryz.f9 Rows.storeRefusesSpec Rows.storeRefusesRow = true := by kernel_rfl
theorem storeRefuses_j23 : Jn.j23 Tryz.prog 9 Tryz.f9 Rows.storeRefusesSpec Rows.storeRefusesRow = true := by kernel_rfl
theorem storeRefuses_j24 : Jn.j24 Tryz.prog 9 Tryz.f9 Rows.storeRefusesSpec Rows.storeRefusesRow = true := by kernel_rfl
theorem storeRefuses_j25 : Jn.j25 Tryz.prog 9 Tryz.f9 Rows.storeRefusesSpec Rows.storeRefusesRow = true := by kernel_rfl
theorem storeRefuses_j26 : Jn.j26 Tryz.prog 9 Tryz.f9 Rows.storeRefusesSpec Rows.storeRefusesRow = true := by kernel_rfl
theorem storeRefuses_j27 : Jn.j27 Tryz.prog 9 Tryz.f9 Rows.storeRefusesSpec Rows.storeRefusesRow = true := by kernel_rfl
theorem storeRefuses_j28 : Jn.j28 Tryz.prog 9 Tryz.f9 Rows.storeRefusesSpec Rows.storeRefusesRow = true := by kernel_rfl
theorem storeRefuses_j29 : Jn.j29 Tryz.prog 9 Tryz.f9 Rows.storeRefusesSpec Rows.storeRefusesRow = true := by kernel_rfl
theorem storeRefuses_j30 : Jn.j30 Tryz.prog 9 Tryz.f9 Rows.storeRefusesSpec Rows.storeRefusesRow = true := by kernel_rfl
theorem storeRefuses_j31 : Jn.j31 Tryz.prog 9 Tryz.f9 Rows.storeRefusesSpec Rows.storeRefusesRow = true := by kernel_rfl
theorem storeRefuses_facts : joinedFacts Tryz.prog 9 Tryz.f9 Rows.storeRefusesSpec Rows.storeRefusesRow = true := joined_of storeRefuses_j0 storeRefuses_j1 storeRefuses_j2 storeRefuses_j3 storeRefuses_j4 storeRefuses_j5 storeRefuses_j6 storeRefuses_j7 storeRefuses_j8 storeRefuses_j9 storeRefuses_j10 storeRefuses_j11 storeRefuses_j12 storeRefuses_j13 storeRefuses_j14 storeRefuses_j15 storeRefuses_j16 storeRefuses_j17 storeRefuses_j18 storeRefuses_j19 storeRefuses_j20 storeRefuses_j21 storeRefuses_j22 storeRefuses_j23 storeRefuses_j24 storeRefuses_j25 storeRefuses_j26 storeRefuses_j27 storeRefuses_j28 storeRefuses_j29 storeRefuses_j30 storeRefuses_j31
theorem storeRefuses_inst : Tryz.f9.isInstance Tryz.prog Rows.storeRefusesRow.origin Rows.storeRefusesRow.targs := of_decide_eq_true (by kernel_rfl)
theorem storeRefuses_wrap : Tryz.f9.isWrapper Tryz.prog Rows.storeRefusesRow.wrapper Rows.storeRefusesRow.mainSum := by unfold Func.isWrapper; rw [if_neg (of_decide_eq_false (by kernel_rfl))]; exact ⟨rfl, rfl⟩
theorem storeRefuses_wf : Rows.storeRefusesRow.wfByText (OpenSpec.ofChange Rows.storeRefusesSpec) = true := by kernel_rfl
theorem storeRefuses_main : Tryz.prog.mainIs = some (Rows.storeRefusesCard.stood.harness.1, Rows.storeRefusesCard.stood.harness.2.toList) := by kernel_rfl
theorem storeRefuses_looks : false = Tryz.prog.looks [] := by kernel_rfl
theorem storeRefuses_stand : ([5, 5, 5, 5, 5, 61].all fun u => !Tryz.prog.wantsStandIn u) = true := by kernel_rfl
theorem storeRefuses_goes : false = Rows.storeRefusesRow.goesBy Tryz.prog := by kernel_rfl

theorem storeRefuses_said : Rows.StoreRefusesSaid :=
  OpenClaim.holds_of_wide 9 Tryz.f9 rfl rfl rfl rfl rfl rfl rfl ⟨rfl, rfl, rfl, rfl, rfl⟩ rfl rfl rfl rfl rfl storeRefuses_named Tryz.func9 storeRefuses_facts
    storeRefuses_inst storeRefuses_wrap
    (fun os started H enc _ => storeRefuses_lifted os started H enc)

theorem storeRefuses_holds : Rows.StoreRefusesCardSaid :=
  Claim7.holds_tied_plain_at .later [] [.data, .pinned] true _ false storeRefuses_said (fun _ h => by cases h) storeRefuses_wf (fun _ h => by cases h) storeRefuses_row_tie rfl ⟨rfl, rfl⟩ storeRefuses_main rfl
    (fun f fn hf hfn => by
      obtain rfl : f = 9 := Option.some.inj (storeRefuses_named2.symm.trans hf) |>.symm
      obtain rfl : fn = Tryz.f9 := (Option.some.inj (Tryz.func9.symm.trans hfn)).symm
      exact ⟨storeRefuses_looks, fun j t ht => by
        rw [Tryz.params9] at ht
        have hm : t ∈ [5, 5, 5, 5, 5, 61] := by simpa using Array.mem_of_getElem? ht
        exact (show Tryz.prog.wantsStandIn t = false by simpa using List.all_eq_true.1 storeRefuses_stand t hm)⟩)
    storeRefuses_goes

#print axioms storeRefuses_holds

end Go.Proofs.YtmbibhphpjmboaaGreatDoor
