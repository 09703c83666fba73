/-
  A set of places is the set of the numbers there; a star is the last: pillarboxlaw23.CritSets returns true for every input, and turns nothing. The card: the listed tables as the program's text lays them.
-/
import Derived.Test.YtnfabgbidkddhaaGreatDoorSetsWM
import Derived.Test.YtnfabgbidkddhaaGreatDoorGCL
namespace Go.Proofs.YtnfabgbidkddhaaGreatDoor
open Go.RowKit Go.ChangeShapes Go.WideShapes Go.ChangeAt
open Go.ChangeMaps (open_string)

set_option maxRecDepth 100000 in
theorem critSets_lifted (os : Os) (started : os.Started) (H : Type) (enc : TypeId × Value → H) :
    ReturnsInHanded {} Tryz.checked os 5 .any (fun w args => (Rows.critSetsSpec.pre enc Tryz.prog Tryz.f5 [] false w args ∧ laidMetH Tryz.prog Rows.critSetsRow.laid w) ∧ sizedMet enc Tryz.prog Tryz.f5 (OpenSpec.ofChange Rows.critSetsSpec) false w args)
      (Rows.critSetsSpec.post enc Tryz.prog Tryz.f5 false true false false) := by
  refine lifted_listed (C := Tryz.checked) (X := fun w => laidMetH Tryz.prog Rows.critSetsRow.laid w) (v0 := #[.slice none 0 0, .int .u8 0, .int .u8 0]) (fun _ _ hh h => h.of_heap hh) Try.own started (by kernel_rfl) Tryz.func5
    (World.laidAll Tryz.prog os Rows.critSetsRow.laid) 8 (World.laidAll_os _ _ _) (World.shaped_of_ZipB (by kernel_rfl) (by kernel_rfl)) (by kernel_rfl) (by kernel_rfl) (by kernel_rfl)
    (by rw [MakeChecks.laidMetH_plain _ _ _ (by kernel_rfl)]; exact laidMet_laidAll _ (by kernel_rfl) (by kernel_rfl)) ?_
  intro W base args ds gs before hval0 hW hsz0 hL hsh
  have hsz : (DataW.weightsEach Tryz.prog (Tryz.f5.params.toList ++ Rows.critSetsSpec.plain.varTypes Tryz.prog) (ds ++ gs)).all (· ≤ reachBytes) = true := hsz0
  have hval : ∀ (j : Nat) t v, Tryz.f5.params[j]? = some t → args[j]? = some v → Value.okWide Tryz.prog W .any base t v := hval0
  have hm := mx_of_shaped hsh
  have hW' := hW
  obtain ⟨p, q, hA0, hV, rfl, _, _⟩ := hW
  have hA : DataW.TrodAll enc Tryz.prog W 0 (fun _ => true) true Tryz.f5.params.toList args.toList ds p := hA0
  rw [Tryz.params5] at hA hval hsz
  obtain ⟨v0, v1, v2, d0, d1, d2, p0, p1, p2, rfl, rfl, rfl, h0, h1, h2⟩ := trodAll_three hA
  obtain ⟨rfl, rfl⟩ := trodVars_none hV
  obtain ⟨n1, rfl, rfl, rfl, w1⟩ := open_int Tryz.underlying5 (hval 1 5 v1 rfl rfl) h1
  obtain ⟨k1, rfl, l1⟩ := wf_u8' w1
  obtain ⟨n2, rfl, rfl, rfl, w2⟩ := open_int Tryz.underlying5 (hval 2 5 v2 rfl rfl) h2
  obtain ⟨k2, rfl, l2⟩ := wf_u8' w2
  obtain ⟨fuel0, hf0⟩ := h0
  have hc0 : ∃ A n cap, v0 = .slice A n cap := okWide_slice Tryz.underlying46 (hval 0 46 v0 rfl rfl)
  obtain ⟨A0, n0, cap0, rfl⟩ := hc0
  obtain ⟨gs, hr0, hb0⟩ := nums_in Tryz.underlying46 Tryz.underlying5 (by kernel_rfl) hf0
  have hb : ∀ g ∈ gs, 0 ≤ g ∧ g ≤ 255 := fun g hg => by
    obtain ⟨k, rfl, hk⟩ := wf_u8' (hb0 g hg)
    omega
  clear hA0 hval0 hsz0
  refine (critSets_any k1 k2 (by omega) (by omega) _ gs W hm hr0 hb).mono fun e W' ⟨he, hb⟩ => ⟨_, he, ?_⟩
  exact law_post Try.laidOut (by kernel_rfl) rfl rfl Tryz.underlying4 hW' rfl hb

theorem critSets_named : Tryz.prog.funcNamed Rows.critSetsRow.func = some 5 := by kernel_rfl
theorem critSets_named2 : Tryz.prog.funcNamed "pillarbox/pillarboxlaw23.CritSets" = some 5 := critSets_named
theorem critSets_j0 : Jn.j0 Tryz.prog 5 Tryz.f5 Rows.critSetsSpec Rows.critSetsRow = true := by kernel_rfl
theorem critSets_j1 : Jn.j1 Tryz.prog 5 Tryz.f5 Rows.critSetsSpec Rows.critSetsRow = true := by kernel_rfl
theorem critSets_j2 : Jn.j2 Tryz.prog 5 Tryz.f5 Rows.critSetsSpec Rows.critSetsRow = true := by kernel_rfl
theorem critSets_j3 : Jn.j3 Tryz.prog 5 Tryz.f5 Rows.critSetsSpec Rows.critSetsRow = true := by kernel_rfl
theorem critSets_j4 : Jn.j4 Tryz.prog 5 Tryz.f5 Rows.critSetsSpec Rows.critSetsRow = true := by kernel_rfl
theorem critSets_j5 : Jn.j5 Tryz.prog 5 Tryz.f5 Rows.critSetsSpec Rows.critSetsRow = true := by kernel_rfl
theorem critSets_j6 : Jn.j6 Tryz.prog 5 Tryz.f5 Rows.critSetsSpec Rows.critSetsRow = true := by kernel_rfl
theorem critSets_j7 : Jn.j7 Tryz.prog 5 Tryz.f5 Rows.critSetsSpec Rows.critSetsRow = true := by kernel_rfl
theorem critSets_j8 : Jn.j8 Tryz.prog 5 Tryz.f5 Rows.critSetsSpec Rows.critSetsRow = true := by kernel_rfl
theorem critSets_j9 : Jn.j9 Tryz.prog 5 Tryz.f5 Rows.critSetsSpec Rows.critSetsRow = true := by kernel_rfl
theorem critSets_j10 : Jn.j10 Tryz.prog 5 Tryz.f5 Rows.critSetsSpec Rows.critSetsRow = true := by kernel_rfl
theorem critSets_j11 : Jn.j11 Tryz.prog 5 Tryz.f5 Rows.critSetsSpec Rows.critSetsRow = true := by kernel_rfl
theorem critSets_j12 : Jn.j12 Tryz.prog 5 Tryz.f5 Rows.critSetsSpec Rows.critSetsRow = true := by kernel_rfl
theorem critSets_j13 : Jn.j13 Tryz.prog 5 Tryz.f5 Rows.critSetsSpec Rows.critSetsRow = true := by kernel_rfl
theorem critSets_j14 : Jn.j14 Tryz.prog 5 Tryz.f5 Rows.critSetsSpec Rows.critSetsRow = true := by kernel_rfl
theorem critSets_j15 : Jn.j15 Tryz.prog 5 Tryz.f5 Rows.critSetsSpec Rows.critSetsRow = true := by kernel_rfl
theorem critSets_j16 : Jn.j16 Tryz.prog 5 Tryz.f5 Rows.critSetsSpec Rows.critSetsRow = true := by kernel_rfl
theorem critSets_j17 : Jn.j17 Tryz.prog 5 Tryz.f5 Rows.critSetsSpec Rows.critSetsRow = true := by kernel_rfl
theorem critSets_j18 : Jn.j18 Tryz.prog 5 Tryz.f5 Rows.critSetsSpec Rows.critSetsRow = true := by kernel_rfl
theorem critSets_j19 : Jn.j19 Tryz.prog 5 Tryz.f5 Rows.critSetsSpec Rows.critSetsRow = true := by kernel_rfl
theorem critSets_j20 : Jn.j20 Tryz.prog 5 Tryz.f5 Rows.critSetsSpec Rows.critSetsRow = true := by kernel_rfl
theorem critSets_j21 : Jn.j21 Tryz.prog 5 Tryz.f5 Rows.critSetsSpec Rows.critSetsRow = true := by kernel_rfl
theorem critSets_j22 : Jn.j22 Tryz.prog 5 Tryz.f5 Rows.critSetsSpec Rows.critSetsRow = true := by kernel_rfl
theorem critSets_j23 : Jn.j23 Tryz.prog 5 Tryz.f5 Rows.critSetsSpec Rows.critSetsRow = true := by kernel_rfl
theorem critSets_j24 : Jn.j24 Tryz.prog 5 Tryz.f5 Rows.critSetsSpec Rows.critSetsRow = true := by kernel_rfl
theorem critSets_j25 : Jn.j25 Tryz.prog 5 Tryz.f5 Rows.critSetsSpec Rows.critSetsRow = true := by kernel_rfl
theorem critSets_j26 : Jn.j26 Tryz.prog 5 Tryz.f5 Rows.critSetsSpec Rows.critSetsRow = true := by kernel_rfl
theorem critSets_j27 : Jn.j27 Tryz.prog 5 Tryz.f5 Rows.critSetsSpec Rows.critSetsRow = true := by kernel_rfl
theorem critSets_j28 : Jn.j28 Tryz.prog 5 Tryz.f5 Rows.critSetsSpec Rows.critSetsRow = true := by kernel_rfl
theorem critSets_j29 : Jn.j29 Tryz.prog 5 Tryz.f5 Rows.critSetsSpec Rows.critSetsRow = true := by kernel_rfl
theorem critSets_j30 : Jn.j30 Tryz.prog 5 Tryz.f5 Rows.critSetsSpec Rows.critSetsRow = true := by kernel_rfl
theorem critSets_j31 : Jn.j31 Tryz.prog 5 Tryz.f5 Rows.critSetsSpec Rows.critSetsRow = true := by kernel_rfl
theorem critSets_facts : joinedFacts Tryz.prog 5 Tryz.f5 Rows.critSetsSpec Rows.critSetsRow = true := joined_of critSets_j0 critSets_j1 critSets_j2 critSets_j3 critSets_j4 critSets_j5 critSets_j6 critSets_j7 critSets_j8 critSets_j9 critSets_j10 critSets_j11 critSets_j12 critSets_j13 critSets_j14 critSets_j15 critSets_j16 critSets_j17 critSets_j18 critSets_j19 critSets_j20 critSets_j21 critSets_j22 critSets_j23 critSets_j24 critSets_j25 critSets_j26 critSets_j27 critSets_j28 critSets_j29 critSets_j30 critSets_j31
theorem critSets_inst : Tryz.f5.isInstance Tryz.prog Rows.critSetsRow.origin Rows.critSetsRow.targs := of_decide_eq_true (by kernel_rfl)
theorem critSets_wrap : Tryz.f5.isWrapper Tryz.prog Rows.critSetsRow.wrapper Rows.critSetsRow.mainSum := by unfold Func.isWrapper; rw [if_neg (of_decide_eq_false (by kernel_rfl))]; exact ⟨rfl, rfl⟩
theorem critSets_wf : Rows.critSetsRow.wfByText (OpenSpec.ofChange Rows.critSetsSpec) = true := by kernel_rfl
theorem critSets_main : Tryz.prog.mainIs = some (Rows.critSetsCard.stood.harness.1, Rows.critSetsCard.stood.harness.2.toList) := by kernel_rfl
theorem critSets_looks : false = Tryz.prog.looks [] := by kernel_rfl
theorem critSets_stand : ([46, 5, 5].all fun u => !Tryz.prog.wantsStandIn u) = true := by kernel_rfl
theorem critSets_goes : false = Rows.critSetsRow.goesBy Tryz.prog := by kernel_rfl

theorem critSets_said : Rows.CritSetsSaid :=
  OpenClaim.holds_of_wide 5 Tryz.f5 rfl rfl rfl rfl rfl rfl rfl ⟨rfl, rfl, rfl, rfl, rfl⟩ rfl rfl rfl rfl rfl critSets_named Tryz.func5 critSets_facts
    critSets_inst critSets_wrap
    (fun os started H enc _ => critSets_lifted os started H enc)

theorem critSets_holds : Rows.CritSetsCardSaid :=
  Claim7.holds_tied_plain_at .later [] [.data, .pinned] true _ false critSets_said (fun _ h => by cases h) critSets_wf (fun _ h => by cases h) critSets_row_tie rfl ⟨rfl, rfl⟩ critSets_main rfl
    (fun f fn hf hfn => by
      obtain rfl : f = 5 := Option.some.inj (critSets_named2.symm.trans hf) |>.symm
      obtain rfl : fn = Tryz.f5 := (Option.some.inj (Tryz.func5.symm.trans hfn)).symm
      exact ⟨critSets_looks, fun j t ht => by
        rw [Tryz.params5] at ht
        have hm : t ∈ [46, 5, 5] := by simpa using Array.mem_of_getElem? ht
        exact (show Tryz.prog.wantsStandIn t = false by simpa using List.all_eq_true.1 critSets_stand t hm)⟩)
    critSets_goes

#print axioms critSets_holds

end Go.Proofs.YtnfabgbidkddhaaGreatDoor
