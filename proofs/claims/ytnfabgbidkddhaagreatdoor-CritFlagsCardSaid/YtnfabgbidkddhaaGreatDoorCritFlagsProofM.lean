/-
  A flag's word holds of emails with its keyword, in letters of any size; with UN ahead of those without: pillarboxlaw23.CritFlags returns true for every input, and turns nothing. The card: the listed tables as the program's text lays them.
-/
import Derived.Test.YtnfabgbidkddhaaGreatDoorFlagsWM
import Derived.Test.YtnfabgbidkddhaaGreatDoorNumsInM
import Derived.Test.YtnfabgbidkddhaaGreatDoorLawCM
import Derived.Test.YtnfabgbidkddhaaGreatDoorJoinCM
namespace Go.Proofs.YtnfabgbidkddhaaGreatDoor
open Go.RowKit Go.ChangeShapes Go.WideShapes Go.ChangeAt
open Go.ChangeMaps (open_string)

set_option maxRecDepth 100000 in
theorem critFlags_lifted (os : Os) (started : os.Started) (H : Type) (enc : TypeId × Value → H) :
    ReturnsInHanded {} Tryz.checked os 6 .any (fun w args => (Rows.critFlagsSpec.pre enc Tryz.prog Tryz.f6 [] false w args ∧ laidMetH Tryz.prog Rows.critFlagsRow.laid w) ∧ sizedMet enc Tryz.prog Tryz.f6 (OpenSpec.ofChange Rows.critFlagsSpec) false w args)
      (Rows.critFlagsSpec.post enc Tryz.prog Tryz.f6 false true false false) := by
  refine lifted_listed (C := Tryz.checked) (X := fun w => laidMetH Tryz.prog Rows.critFlagsRow.laid w) (v0 := #[.int .u8 0, .slice none 0 0]) (fun _ _ hh h => h.of_heap hh) Try.own started (by kernel_rfl) Tryz.func6
    (World.laidAll Tryz.prog os Rows.critFlagsRow.laid) 8 (World.laidAll_os _ _ _) (World.shaped_of_ZipB (by kernel_rfl) (by kernel_rfl)) (by kernel_rfl) (by kernel_rfl) (by kernel_rfl)
    (by rw [MakeChecks.laidMetH_plain _ _ _ (by kernel_rfl)]; exact laidMet_laidAll _ (by kernel_rfl) (by kernel_rfl)) ?_
  intro W base args ds gs before hval0 hW hsz0 hL hsh
  have hsz : (DataW.weightsEach Tryz.prog (Tryz.f6.params.toList ++ Rows.critFlagsSpec.plain.varTypes Tryz.prog) (ds ++ gs)).all (· ≤ reachBytes) = true := hsz0
  have hval : ∀ (j : Nat) t v, Tryz.f6.params[j]? = some t → args[j]? = some v → Value.okWide Tryz.prog W .any base t v := hval0
  have hm := mx_of_shaped hsh
  have hW' := hW
  obtain ⟨p, q, hA0, hV, rfl, _, _⟩ := hW
  have hA : DataW.TrodAll enc Tryz.prog W 0 (fun _ => true) true Tryz.f6.params.toList args.toList ds p := hA0
  rw [Tryz.params6] at hA hval hsz
  obtain ⟨v0, v1, d0, d1, p0, p1, rfl, rfl, rfl, h0, h1⟩ := trodAll_two hA
  obtain ⟨rfl, rfl⟩ := trodVars_none hV
  obtain ⟨n0, rfl, rfl, rfl, w0⟩ := open_int Tryz.underlying5 (hval 0 5 v0 rfl rfl) h0
  obtain ⟨k0, rfl, l0⟩ := wf_u8' w0
  obtain ⟨fuel1, hf1⟩ := h1
  have hc1 : ∃ A n cap, v1 = .slice A n cap := okWide_slice Tryz.underlying46 (hval 1 46 v1 rfl rfl)
  obtain ⟨A1, n1, cap1, rfl⟩ := hc1
  obtain ⟨gs, hr1, hb1⟩ := nums_in Tryz.underlying46 Tryz.underlying5 (by kernel_rfl) hf1
  have hb : ∀ g ∈ gs, 0 ≤ g ∧ g ≤ 255 := fun g hg => by
    obtain ⟨k, rfl, hk⟩ := wf_u8' (hb1 g hg)
    omega
  clear hA0 hval0 hsz0
  refine (critFlags_any k0 (by omega) _ gs W hm hr1 hb).mono fun e W' ⟨he, hb⟩ => ⟨_, he, ?_⟩
  exact law_post Try.laidOut (by kernel_rfl) rfl rfl Tryz.underlying4 hW' rfl hb

theorem critFlags_named : Tryz.prog.funcNamed Rows.critFlagsRow.func = some 6 := by kernel_rfl
theorem critFlags_named2 : Tryz.prog.funcNamed "pillarbox/pillarboxlaw23.CritFlags" = some 6 := critFlags_named
theorem critFlags_j0 : Jn.j0 Tryz.prog 6 Tryz.f6 Rows.critFlagsSpec Rows.critFlagsRow = true := by kernel_rfl
theorem critFlags_j1 : Jn.j1 Tryz.prog 6 Tryz.f6 Rows.critFlagsSpec Rows.critFlagsRow = true := by kernel_rfl
theorem critFlags_j2 : Jn.j2 Tryz.prog 6 Tryz.f6 Rows.critFlagsSpec Rows.critFlagsRow = true := by kernel_rfl
theorem critFlags_j3 : Jn.j3 Tryz.prog 6 Tryz.f6 Rows.critFlagsSpec Rows.critFlagsRow = true := by kernel_rfl
theorem critFlags_j4 : Jn.j4 Tryz.prog 6 Tryz.f6 Rows.critFlagsSpec Rows.critFlagsRow = true := by kernel_rfl
theorem critFlags_j5 : Jn.j5 Tryz.prog 6 Tryz.f6 Rows.critFlagsSpec Rows.critFlagsRow = true := by kernel_rfl
theorem critFlags_j6 : Jn.j6 Tryz.prog 6 Tryz.f6 Rows.critFlagsSpec Rows.critFlagsRow = true := by kernel_rfl
theorem critFlags_j7 : Jn.j7 Tryz.prog 6 Tryz.f6 Rows.critFlagsSpec Rows.critFlagsRow = true := by kernel_rfl
theorem critFlags_j8 : Jn.j8 Tryz.prog 6 Tryz.f6 Rows.critFlagsSpec Rows.critFlagsRow = true := by kernel_rfl
theorem critFlags_j9 : Jn.j9 Tryz.prog 6 Tryz.f6 Rows.critFlagsSpec Rows.critFlagsRow = true := by kernel_rfl
theorem critFlags_j10 : Jn.j10 Tryz.prog 6 Tryz.f6 Rows.critFlagsSpec Rows.critFlagsRow = true := by kernel_rfl
theorem critFlags_j11 : Jn.j11 Tryz.prog 6 Tryz.f6 Rows.critFlagsSpec Rows.critFlagsRow = true := by kernel_rfl
theorem critFlags_j12 : Jn.j12 Tryz.prog 6 Tryz.f6 Rows.critFlagsSpec Rows.critFlagsRow = true := by kernel_rfl
theorem critFlags_j13 : Jn.j13 Tryz.prog 6 Tryz.f6 Rows.critFlagsSpec Rows.critFlagsRow = true := by kernel_rfl
theorem critFlags_j14 : Jn.j14 Tryz.prog 6 Tryz.f6 Rows.critFlagsSpec Rows.critFlagsRow = true := by kernel_rfl
theorem critFlags_j15 : Jn.j15 Tryz.prog 6 Tryz.f6 Rows.critFlagsSpec Rows.critFlagsRow = true := by kernel_rfl
theorem critFlags_j16 : Jn.j16 Tryz.prog 6 Tryz.f6 Rows.critFlagsSpec Rows.critFlagsRow = true := by kernel_rfl
theorem critFlags_j17 : Jn.j17 Tryz.prog 6 Tryz.f6 Rows.critFlagsSpec Rows.critFlagsRow = true := by kernel_rfl
theorem critFlags_j18 : Jn.j18 Tryz.prog 6 Tryz.f6 Rows.critFlagsSpec Rows.critFlagsRow = true := by kernel_rfl
theorem critFlags_j19 : Jn.j19 Tryz.prog 6 Tryz.f6 Rows.critFlagsSpec Rows.critFlagsRow = true := by kernel_rfl
theorem critFlags_j20 : Jn.j20 Tryz.prog 6 Tryz.f6 Rows.critFlagsSpec Rows.critFlagsRow = true := by kernel_rfl
theorem critFlags_j21 : Jn.j21 Tryz.prog 6 Tryz.f6 Rows.critFlagsSpec Rows.critFlagsRow = true := by kernel_rfl
theorem critFlags_j22 : Jn.j22 Tryz.prog 6 Tryz.f6 Rows.critFlagsSpec Rows.critFlagsRow = true := by kernel_rfl
theorem critFlags_j23 : Jn.j23 Tryz.prog 6 Tryz.f6 Rows.critFlagsSpec Rows.critFlagsRow = true := by kernel_rfl
theorem critFlags_j24 : Jn.j24 Tryz.prog 6 Tryz.f6 Rows.critFlagsSpec Rows.critFlagsRow = true := by kernel_rfl
theorem critFlags_j25 : Jn.j25 Tryz.prog 6 Tryz.f6 Rows.critFlagsSpec Rows.critFlagsRow = true := by kernel_rfl
theorem critFlags_j26 : Jn.j26 Tryz.prog 6 Tryz.f6 Rows.critFlagsSpec Rows.critFlagsRow = true := by kernel_rfl
theorem critFlags_j27 : Jn.j27 Tryz.prog 6 Tryz.f6 Rows.critFlagsSpec Rows.critFlagsRow = true := by kernel_rfl
theorem critFlags_j28 : Jn.j28 Tryz.prog 6 Tryz.f6 Rows.critFlagsSpec Rows.critFlagsRow = true := by kernel_rfl
theorem critFlags_j29 : Jn.j29 Tryz.prog 6 Tryz.f6 Rows.critFlagsSpec Rows.critFlagsRow = true := by kernel_rfl
theorem critFlags_j30 : Jn.j30 Tryz.prog 6 Tryz.f6 Rows.critFlagsSpec Rows.critFlagsRow = true := by kernel_rfl
theorem critFlags_j31 : Jn.j31 Tryz.prog 6 Tryz.f6 Rows.critFlagsSpec Rows.critFlagsRow = true := by kernel_rfl
theorem critFlags_facts : joinedFacts Tryz.prog 6 Tryz.f6 Rows.critFlagsSpec Rows.critFlagsRow = true := joined_of critFlags_j0 critFlags_j1 critFlags_j2 critFlags_j3 critFlags_j4 critFlags_j5 critFlags_j6 critFlags_j7 critFlags_j8 critFlags_j9 critFlags_j10 critFlags_j11 critFlags_j12 critFlags_j13 critFlags_j14 critFlags_j15 critFlags_j16 critFlags_j17 critFlags_j18 critFlags_j19 critFlags_j20 critFlags_j21 critFlags_j22 critFlags_j23 critFlags_j24 critFlags_j25 critFlags_j26 critFlags_j27 critFlags_j28 critFlags_j29 critFlags_j30 critFlags_j31
theorem critFlags_inst : Tryz.f6.isInstance Tryz.prog Rows.critFlagsRow.origin Rows.critFlagsRow.targs := of_decide_eq_true (by kernel_rfl)
theorem critFlags_wrap : Tryz.f6.isWrapper Tryz.prog Rows.critFlagsRow.wrapper Rows.critFlagsRow.mainSum := by unfold Func.isWrapper; rw [if_neg (of_decide_eq_false (by kernel_rfl))]; exact ⟨rfl, rfl⟩
theorem critFlags_wf : Rows.critFlagsRow.wfByText (OpenSpec.ofChange Rows.critFlagsSpec) = true := by kernel_rfl
theorem critFlags_main : Tryz.prog.mainIs = some (Rows.critFlagsCard.stood.harness.1, Rows.critFlagsCard.stood.harness.2.toList) := by kernel_rfl
theorem critFlags_looks : false = Tryz.prog.looks [] := by kernel_rfl
theorem critFlags_stand : ([5, 46].all fun u => !Tryz.prog.wantsStandIn u) = true := by kernel_rfl
theorem critFlags_goes : false = Rows.critFlagsRow.goesBy Tryz.prog := by kernel_rfl

theorem critFlags_said : Rows.CritFlagsSaid :=
  OpenClaim.holds_of_wide 6 Tryz.f6 rfl rfl rfl rfl rfl rfl rfl ⟨rfl, rfl, rfl, rfl, rfl⟩ rfl rfl rfl rfl rfl critFlags_named Tryz.func6 critFlags_facts
    critFlags_inst critFlags_wrap
    (fun os started H enc _ => critFlags_lifted os started H enc)

theorem critFlags_holds : Rows.CritFlagsCardSaid :=
  Claim7.holds_tied_plain_at .later [] [.data, .pinned] true _ false critFlags_said (fun _ h => by cases h) critFlags_wf (fun _ h => by cases h) critFlags_row_tie rfl ⟨rfl, rfl⟩ critFlags_main rfl
    (fun f fn hf hfn => by
      obtain rfl : f = 6 := Option.some.inj (critFlags_named2.symm.trans hf) |>.symm
      obtain rfl : fn = Tryz.f6 := (Option.some.inj (Tryz.func6.symm.trans hfn)).symm
      exact ⟨critFlags_looks, fun j t ht => by
        rw [Tryz.params6] at ht
        have hm : t ∈ [5, 46] := by simpa using Array.mem_of_getElem? ht
        exact (show Tryz.prog.wantsStandIn t = false by simpa using List.all_eq_true.1 critFlags_stand t hm)⟩)
    critFlags_goes

#print axioms critFlags_holds

end Go.Proofs.YtnfabgbidkddhaaGreatDoor
