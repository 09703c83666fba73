/-
  A day's emails are those from its first second on, ahead of the next day's: pillarboxlaw23.CritDays returns true for every input, and turns nothing. The card: the listed tables as the program's text lays them.
-/
import Derived.Test.YtnfabgbidkddhaaGreatDoorDaysWM
import Derived.Test.YtnfabgbidkddhaaGreatDoorLawCM
import Derived.Test.YtnfabgbidkddhaaGreatDoorJoinCM
namespace Go.Proofs.YtnfabgbidkddhaaGreatDoor
open Go.RowKit Go.ChangeShapes Go.WideShapes Go.ChangeAt
open Go.ChangeMaps (open_string)

set_option maxRecDepth 100000 in
theorem critDays_lifted (os : Os) (started : os.Started) (H : Type) (enc : TypeId × Value → H) :
    ReturnsInHanded {} Tryz.checked os 7 .any (fun w args => (Rows.critDaysSpec.pre enc Tryz.prog Tryz.f7 [] false w args ∧ laidMetH Tryz.prog Rows.critDaysRow.laid w) ∧ sizedMet enc Tryz.prog Tryz.f7 (OpenSpec.ofChange Rows.critDaysSpec) false w args)
      (Rows.critDaysSpec.post enc Tryz.prog Tryz.f7 false true false false) := by
  refine lifted_listed (C := Tryz.checked) (X := fun w => laidMetH Tryz.prog Rows.critDaysRow.laid w) (v0 := #[.int .u32 0, .int .u16 0]) (fun _ _ hh h => h.of_heap hh) Try.own started (by kernel_rfl) Tryz.func7
    (World.laidAll Tryz.prog os Rows.critDaysRow.laid) 8 (World.laidAll_os _ _ _) (World.shaped_of_ZipB (by kernel_rfl) (by kernel_rfl)) (by kernel_rfl) (by kernel_rfl) (by kernel_rfl)
    (by rw [MakeChecks.laidMetH_plain _ _ _ (by kernel_rfl)]; exact laidMet_laidAll _ (by kernel_rfl) (by kernel_rfl)) ?_
  intro W base args ds gs before hval0 hW hsz0 hL hsh
  have hsz : (DataW.weightsEach Tryz.prog (Tryz.f7.params.toList ++ Rows.critDaysSpec.plain.varTypes Tryz.prog) (ds ++ gs)).all (· ≤ reachBytes) = true := hsz0
  have hval : ∀ (j : Nat) t v, Tryz.f7.params[j]? = some t → args[j]? = some v → Value.okWide Tryz.prog W .any base t v := hval0
  have hm := mx_of_shaped hsh
  have hW' := hW
  obtain ⟨p, q, hA0, hV, rfl, _, _⟩ := hW
  have hA : DataW.TrodAll enc Tryz.prog W 0 (fun _ => true) true Tryz.f7.params.toList args.toList ds p := hA0
  rw [Tryz.params7] at hA hval hsz
  obtain ⟨v0, v1, d0, d1, p0, p1, rfl, rfl, rfl, h0, h1⟩ := trodAll_two hA
  obtain ⟨rfl, rfl⟩ := trodVars_none hV
  obtain ⟨n0, rfl, rfl, rfl, w0⟩ := open_int Tryz.underlying52 (hval 0 52 v0 rfl rfl) h0
  obtain ⟨k0, rfl, l0⟩ := wf_u32' w0
  obtain ⟨n1, rfl, rfl, rfl, w1⟩ := open_int Tryz.underlying53 (hval 1 53 v1 rfl rfl) h1
  obtain ⟨k1, rfl, l1⟩ := wf_u16' w1
  clear hA0 hval0 hsz0
  refine (critDays_any k0 k1 (by omega) (by omega) W hm).mono fun e W' ⟨he, hb⟩ => ⟨_, he, ?_⟩
  exact law_post Try.laidOut (by kernel_rfl) rfl rfl Tryz.underlying4 hW' rfl hb

theorem critDays_named : Tryz.prog.funcNamed Rows.critDaysRow.func = some 7 := by kernel_rfl
theorem critDays_named2 : Tryz.prog.funcNamed "pillarbox/pillarboxlaw23.CritDays" = some 7 := critDays_named
theorem critDays_j0 : Jn.j0 Tryz.prog 7 Tryz.f7 Rows.critDaysSpec Rows.critDaysRow = true := by kernel_rfl
theorem critDays_j1 : Jn.j1 Tryz.prog 7 Tryz.f7 Rows.critDaysSpec Rows.critDaysRow = true := by kernel_rfl
theorem critDays_j2 : Jn.j2 Tryz.prog 7 Tryz.f7 Rows.critDaysSpec Rows.critDaysRow = true := by kernel_rfl
theorem critDays_j3 : Jn.j3 Tryz.prog 7 Tryz.f7 Rows.critDaysSpec Rows.critDaysRow = true := by kernel_rfl
theorem critDays_j4 : Jn.j4 Tryz.prog 7 Tryz.f7 Rows.critDaysSpec Rows.critDaysRow = true := by kernel_rfl
theorem critDays_j5 : Jn.j5 Tryz.prog 7 Tryz.f7 Rows.critDaysSpec Rows.critDaysRow = true := by kernel_rfl
theorem critDays_j6 : Jn.j6 Tryz.prog 7 Tryz.f7 Rows.critDaysSpec Rows.critDaysRow = true := by kernel_rfl
theorem critDays_j7 : Jn.j7 Tryz.prog 7 Tryz.f7 Rows.critDaysSpec Rows.critDaysRow = true := by kernel_rfl
theorem critDays_j8 : Jn.j8 Tryz.prog 7 Tryz.f7 Rows.critDaysSpec Rows.critDaysRow = true := by kernel_rfl
theorem critDays_j9 : Jn.j9 Tryz.prog 7 Tryz.f7 Rows.critDaysSpec Rows.critDaysRow = true := by kernel_rfl
theorem critDays_j10 : Jn.j10 Tryz.prog 7 Tryz.f7 Rows.critDaysSpec Rows.critDaysRow = true := by kernel_rfl
theorem critDays_j11 : Jn.j11 Tryz.prog 7 Tryz.f7 Rows.critDaysSpec Rows.critDaysRow = true := by kernel_rfl
theorem critDays_j12 : Jn.j12 Tryz.prog 7 Tryz.f7 Rows.critDaysSpec Rows.critDaysRow = true := by kernel_rfl
theorem critDays_j13 : Jn.j13 Tryz.prog 7 Tryz.f7 Rows.critDaysSpec Rows.critDaysRow = true := by kernel_rfl
theorem critDays_j14 : Jn.j14 Tryz.prog 7 Tryz.f7 Rows.critDaysSpec Rows.critDaysRow = true := by kernel_rfl
theorem critDays_j15 : Jn.j15 Tryz.prog 7 Tryz.f7 Rows.critDaysSpec Rows.critDaysRow = true := by kernel_rfl
theorem critDays_j16 : Jn.j16 Tryz.prog 7 Tryz.f7 Rows.critDaysSpec Rows.critDaysRow = true := by kernel_rfl
theorem critDays_j17 : Jn.j17 Tryz.prog 7 Tryz.f7 Rows.critDaysSpec Rows.critDaysRow = true := by kernel_rfl
theorem critDays_j18 : Jn.j18 Tryz.prog 7 Tryz.f7 Rows.critDaysSpec Rows.critDaysRow = true := by kernel_rfl
theorem critDays_j19 : Jn.j19 Tryz.prog 7 Tryz.f7 Rows.critDaysSpec Rows.critDaysRow = true := by kernel_rfl
theorem critDays_j20 : Jn.j20 Tryz.prog 7 Tryz.f7 Rows.critDaysSpec Rows.critDaysRow = true := by kernel_rfl
theorem critDays_j21 : Jn.j21 Tryz.prog 7 Tryz.f7 Rows.critDaysSpec Rows.critDaysRow = true := by kernel_rfl
theorem critDays_j22 : Jn.j22 Tryz.prog 7 Tryz.f7 Rows.critDaysSpec Rows.critDaysRow = true := by kernel_rfl
theorem critDays_j23 : Jn.j23 Tryz.prog 7 Tryz.f7 Rows.critDaysSpec Rows.critDaysRow = true := by kernel_rfl
theorem critDays_j24 : Jn.j24 Tryz.prog 7 Tryz.f7 Rows.critDaysSpec Rows.critDaysRow = true := by kernel_rfl
theorem critDays_j25 : Jn.j25 Tryz.prog 7 Tryz.f7 Rows.critDaysSpec Rows.critDaysRow = true := by kernel_rfl
theorem critDays_j26 : Jn.j26 Tryz.prog 7 Tryz.f7 Rows.critDaysSpec Rows.critDaysRow = true := by kernel_rfl
theorem critDays_j27 : Jn.j27 Tryz.prog 7 Tryz.f7 Rows.critDaysSpec Rows.critDaysRow = true := by kernel_rfl
theorem critDays_j28 : Jn.j28 Tryz.prog 7 Tryz.f7 Rows.critDaysSpec Rows.critDaysRow = true := by kernel_rfl
theorem critDays_j29 : Jn.j29 Tryz.prog 7 Tryz.f7 Rows.critDaysSpec Rows.critDaysRow = true := by kernel_rfl
theorem critDays_j30 : Jn.j30 Tryz.prog 7 Tryz.f7 Rows.critDaysSpec Rows.critDaysRow = true := by kernel_rfl
theorem critDays_j31 : Jn.j31 Tryz.prog 7 Tryz.f7 Rows.critDaysSpec Rows.critDaysRow = true := by kernel_rfl
theorem critDays_facts : joinedFacts Tryz.prog 7 Tryz.f7 Rows.critDaysSpec Rows.critDaysRow = true := joined_of critDays_j0 critDays_j1 critDays_j2 critDays_j3 critDays_j4 critDays_j5 critDays_j6 critDays_j7 critDays_j8 critDays_j9 critDays_j10 critDays_j11 critDays_j12 critDays_j13 critDays_j14 critDays_j15 critDays_j16 critDays_j17 critDays_j18 critDays_j19 critDays_j20 critDays_j21 critDays_j22 critDays_j23 critDays_j24 critDays_j25 critDays_j26 critDays_j27 critDays_j28 critDays_j29 critDays_j30 critDays_j31
theorem critDays_inst : Tryz.f7.isInstance Tryz.prog Rows.critDaysRow.origin Rows.critDaysRow.targs := of_decide_eq_true (by kernel_rfl)
theorem critDays_wrap : Tryz.f7.isWrapper Tryz.prog Rows.critDaysRow.wrapper Rows.critDaysRow.mainSum := by unfold Func.isWrapper; rw [if_neg (of_decide_eq_false (by kernel_rfl))]; exact ⟨rfl, rfl⟩
theorem critDays_wf : Rows.critDaysRow.wfByText (OpenSpec.ofChange Rows.critDaysSpec) = true := by kernel_rfl
theorem critDays_main : Tryz.prog.mainIs = some (Rows.critDaysCard.stood.harness.1, Rows.critDaysCard.stood.harness.2.toList) := by kernel_rfl
theorem critDays_looks : false = Tryz.prog.looks [] := by kernel_rfl
theorem critDays_stand : ([52, 53].all fun u => !Tryz.prog.wantsStandIn u) = true := by kernel_rfl
theorem critDays_goes : false = Rows.critDaysRow.goesBy Tryz.prog := by kernel_rfl

theorem critDays_said : Rows.CritDaysSaid :=
  OpenClaim.holds_of_wide 7 Tryz.f7 rfl rfl rfl rfl rfl rfl rfl ⟨rfl, rfl, rfl, rfl, rfl⟩ rfl rfl rfl rfl rfl critDays_named Tryz.func7 critDays_facts
    critDays_inst critDays_wrap
    (fun os started H enc _ => critDays_lifted os started H enc)

theorem critDays_holds : Rows.CritDaysCardSaid :=
  Claim7.holds_tied_plain_at .later [] [.data, .pinned] true _ false critDays_said (fun _ h => by cases h) critDays_wf (fun _ h => by cases h) critDays_row_tie rfl ⟨rfl, rfl⟩ critDays_main rfl
    (fun f fn hf hfn => by
      obtain rfl : f = 7 := Option.some.inj (critDays_named2.symm.trans hf) |>.symm
      obtain rfl : fn = Tryz.f7 := (Option.some.inj (Tryz.func7.symm.trans hfn)).symm
      exact ⟨critDays_looks, fun j t ht => by
        rw [Tryz.params7] at ht
        have hm : t ∈ [52, 53] := by simpa using Array.mem_of_getElem? ht
        exact (show Tryz.prog.wantsStandIn t = false by simpa using List.all_eq_true.1 critDays_stand t hm)⟩)
    critDays_goes

#print axioms critDays_holds

end Go.Proofs.YtnfabgbidkddhaaGreatDoor
