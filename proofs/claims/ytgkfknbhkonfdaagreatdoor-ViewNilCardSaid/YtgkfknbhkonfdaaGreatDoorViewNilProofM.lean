/-
  A view that there is not tells nothing; of no account there is none: pillarboxlaw24.ViewNil returns true for every input, and turns nothing. The card: the listed tables as the program's text lays them.
-/
import Derived.Test.YtgkfknbhkonfdaaGreatDoorViewNilWM
import Derived.Test.YtgkfknbhkonfdaaGreatDoorTensVM
import Derived.Test.YtgkfknbhkonfdaaGreatDoorLawSM
import Derived.Test.YtgkfknbhkonfdaaGreatDoorJoinM
namespace Go.Proofs.YtgkfknbhkonfdaaGreatDoor
open Go.RowKit Go.ChangeShapes Go.WideShapes Go.ChangeAt
open Go.ChangeMaps (open_string)

set_option maxRecDepth 100000 in
theorem viewNil_lifted (os : Os) (started : os.Started) (H : Type) (enc : TypeId × Value → H) :
    ReturnsInHanded {} Tryz.checked os 8 .any (fun w args => (Rows.viewNilSpec.pre enc Tryz.prog Tryz.f8 [] false w args ∧ laidMetH Tryz.prog Rows.viewNilRow.laid w) ∧ sizedMet enc Tryz.prog Tryz.f8 (OpenSpec.ofChange Rows.viewNilSpec) false w args)
      (Rows.viewNilSpec.post enc Tryz.prog Tryz.f8 false true false false) := by
  refine lifted_listed (C := Tryz.checked) (X := fun w => laidMetH Tryz.prog Rows.viewNilRow.laid w) (v0 := #[.int .i64 0]) (fun _ _ hh h => h.of_heap hh) Try.own started (by kernel_rfl) Tryz.func8
    (World.laidAll Tryz.prog os Rows.viewNilRow.laid) 8 (World.laidAll_os _ _ _) (World.shaped_of_ZipB (by kernel_rfl) (by kernel_rfl)) (by kernel_rfl) (by kernel_rfl) (by kernel_rfl)
    (by rw [MakeChecks.laidMetH_plain _ _ _ (by kernel_rfl)]; exact laidMet_laidAll _ (by kernel_rfl) (by kernel_rfl)) ?_
  intro W base args ds gs before hval0 hW hsz0 hL hsh
  have hsz : (DataW.weightsEach Tryz.prog (Tryz.f8.params.toList ++ Rows.viewNilSpec.plain.varTypes Tryz.prog) (ds ++ gs)).all (· ≤ reachBytes) = true := hsz0
  have hval : ∀ (j : Nat) t v, Tryz.f8.params[j]? = some t → args[j]? = some v → Value.okWide Tryz.prog W .any base t v := hval0
  have hW' := hW
  obtain ⟨p, q, hA0, hV, rfl, _, _⟩ := hW
  have hA : DataW.TrodAll enc Tryz.prog W 0 (fun _ => true) true Tryz.f8.params.toList args.toList ds p := hA0
  rw [Tryz.params8] at hA hval hsz
  obtain ⟨v0, d0, rfl, rfl, h0⟩ := trodAll_one hA
  obtain ⟨rfl, rfl⟩ := trodVars_none hV
  obtain ⟨n0, rfl, rfl, rfl, w0⟩ := open_int Tryz.underlying3 (hval 0 3 v0 rfl rfl) h0
  rw [MakeChecks.laidMetH_plain _ _ _ (by kernel_rfl)] at hL
  have ht : TensV W := tensV_of_laid hL (by simp [Rows.viewNilRow])
  clear hA0 hval0 hsz0
  refine (viewNil_any n0 W ht).mono fun e W' ⟨he, hb⟩ => ⟨_, he, ?_⟩
  exact law_post Try.laidOut (by kernel_rfl) rfl rfl Tryz.underlying4 hW' rfl hb

theorem viewNil_named : Tryz.prog.funcNamed Rows.viewNilRow.func = some 8 := by kernel_rfl
theorem viewNil_named2 : Tryz.prog.funcNamed "pillarbox/pillarboxlaw24.ViewNil" = some 8 := viewNil_named
theorem viewNil_j0 : Jn.j0 Tryz.prog 8 Tryz.f8 Rows.viewNilSpec Rows.viewNilRow = true := by kernel_rfl
theorem viewNil_j1 : Jn.j1 Tryz.prog 8 Tryz.f8 Rows.viewNilSpec Rows.viewNilRow = true := by kernel_rfl
theorem viewNil_j2 : Jn.j2 Tryz.prog 8 Tryz.f8 Rows.viewNilSpec Rows.viewNilRow = true := by kernel_rfl
theorem viewNil_j3 : Jn.j3 Tryz.prog 8 Tryz.f8 Rows.viewNilSpec Rows.viewNilRow = true := by kernel_rfl
theorem viewNil_j4 : Jn.j4 Tryz.prog 8 Tryz.f8 Rows.viewNilSpec Rows.viewNilRow = true := by kernel_rfl
theorem viewNil_j5 : Jn.j5 Tryz.prog 8 Tryz.f8 Rows.viewNilSpec Rows.viewNilRow = true := by kernel_rfl
theorem viewNil_j6 : Jn.j6 Tryz.prog 8 Tryz.f8 Rows.viewNilSpec Rows.viewNilRow = true := by kernel_rfl
theorem viewNil_j7 : Jn.j7 Tryz.prog 8 Tryz.f8 Rows.viewNilSpec Rows.viewNilRow = true := by kernel_rfl
theorem viewNil_j8 : Jn.j8 Tryz.prog 8 Tryz.f8 Rows.viewNilSpec Rows.viewNilRow = true := by kernel_rfl
theorem viewNil_j9 : Jn.j9 Tryz.prog 8 Tryz.f8 Rows.viewNilSpec Rows.viewNilRow = true := by kernel_rfl
theorem viewNil_j10 : Jn.j10 Tryz.prog 8 Tryz.f8 Rows.viewNilSpec Rows.viewNilRow = true := by kernel_rfl
theorem viewNil_j11 : Jn.j11 Tryz.prog 8 Tryz.f8 Rows.viewNilSpec Rows.viewNilRow = true := by kernel_rfl
theorem viewNil_j12 : Jn.j12 Tryz.prog 8 Tryz.f8 Rows.viewNilSpec Rows.viewNilRow = true := by kernel_rfl
theorem viewNil_j13 : Jn.j13 Tryz.prog 8 Tryz.f8 Rows.viewNilSpec Rows.viewNilRow = true := by kernel_rfl
theorem viewNil_j14 : Jn.j14 Tryz.prog 8 Tryz.f8 Rows.viewNilSpec Rows.viewNilRow = true := by kernel_rfl
theorem viewNil_j15 : Jn.j15 Tryz.prog 8 Tryz.f8 Rows.viewNilSpec Rows.viewNilRow = true := by kernel_rfl
theorem viewNil_j16 : Jn.j16 Tryz.prog 8 Tryz.f8 Rows.viewNilSpec Rows.viewNilRow = true := by kernel_rfl
theorem viewNil_j17 : Jn.j17 Tryz.prog 8 Tryz.f8 Rows.viewNilSpec Rows.viewNilRow = true := by kernel_rfl
theorem viewNil_j18 : Jn.j18 Tryz.prog 8 Tryz.f8 Rows.viewNilSpec Rows.viewNilRow = true := by kernel_rfl
theorem viewNil_j19 : Jn.j19 Tryz.prog 8 Tryz.f8 Rows.viewNilSpec Rows.viewNilRow = true := by kernel_rfl
theorem viewNil_j20 : Jn.j20 Tryz.prog 8 Tryz.f8 Rows.viewNilSpec Rows.viewNilRow = true := by kernel_rfl
theorem viewNil_j21 : Jn.j21 Tryz.prog 8 Tryz.f8 Rows.viewNilSpec Rows.viewNilRow = true := by kernel_rfl
theorem viewNil_j22 : Jn.j22 Tryz.prog 8 Tryz.f8 Rows.viewNilSpec Rows.viewNilRow = true := by kernel_rfl
theorem viewNil_j23 : Jn.j23 Tryz.prog 8 Tryz.f8 Rows.viewNilSpec Rows.viewNilRow = true := by kernel_rfl
theorem viewNil_j24 : Jn.j24 Tryz.prog 8 Tryz.f8 Rows.viewNilSpec Rows.viewNilRow = true := by kernel_rfl
theorem viewNil_j25 : Jn.j25 Tryz.prog 8 Tryz.f8 Rows.viewNilSpec Rows.viewNilRow = true := by kernel_rfl
theorem viewNil_j26 : Jn.j26 Tryz.prog 8 Tryz.f8 Rows.viewNilSpec Rows.viewNilRow = true := by kernel_rfl
theorem viewNil_j27 : Jn.j27 Tryz.prog 8 Tryz.f8 Rows.viewNilSpec Rows.viewNilRow = true := by kernel_rfl
theorem viewNil_j28 : Jn.j28 Tryz.prog 8 Tryz.f8 Rows.viewNilSpec Rows.viewNilRow = true := by kernel_rfl
theorem viewNil_j29 : Jn.j29 Tryz.prog 8 Tryz.f8 Rows.viewNilSpec Rows.viewNilRow = true := by kernel_rfl
theorem viewNil_j30 : Jn.j30 Tryz.prog 8 Tryz.f8 Rows.viewNilSpec Rows.viewNilRow = true := by kernel_rfl
theorem viewNil_j31 : Jn.j31 Tryz.prog 8 Tryz.f8 Rows.viewNilSpec Rows.viewNilRow = true := by kernel_rfl
theorem viewNil_facts : joinedFacts Tryz.prog 8 Tryz.f8 Rows.viewNilSpec Rows.viewNilRow = true := joined_of viewNil_j0 viewNil_j1 viewNil_j2 viewNil_j3 viewNil_j4 viewNil_j5 viewNil_j6 viewNil_j7 viewNil_j8 viewNil_j9 viewNil_j10 viewNil_j11 viewNil_j12 viewNil_j13 viewNil_j14 viewNil_j15 viewNil_j16 viewNil_j17 viewNil_j18 viewNil_j19 viewNil_j20 viewNil_j21 viewNil_j22 viewNil_j23 viewNil_j24 viewNil_j25 viewNil_j26 viewNil_j27 viewNil_j28 viewNil_j29 viewNil_j30 viewNil_j31
theorem viewNil_inst : Tryz.f8.isInstance Tryz.prog Rows.viewNilRow.origin Rows.viewNilRow.targs := of_decide_eq_true (by kernel_rfl)
theorem viewNil_wrap : Tryz.f8.isWrapper Tryz.prog Rows.viewNilRow.wrapper Rows.viewNilRow.mainSum := by unfold Func.isWrapper; rw [if_neg (of_decide_eq_false (by kernel_rfl))]; exact ⟨rfl, rfl⟩
theorem viewNil_wf : Rows.viewNilRow.wfByText (OpenSpec.ofChange Rows.viewNilSpec) = true := by kernel_rfl
theorem viewNil_main : Tryz.prog.mainIs = some (Rows.viewNilCard.stood.harness.1, Rows.viewNilCard.stood.harness.2.toList) := by kernel_rfl
theorem viewNil_looks : false = Tryz.prog.looks [] := by kernel_rfl
theorem viewNil_stand : ([3].all fun u => !Tryz.prog.wantsStandIn u) = true := by kernel_rfl
theorem viewNil_goes : false = Rows.viewNilRow.goesBy Tryz.prog := by kernel_rfl

theorem viewNil_said : Rows.ViewNilSaid :=
  OpenClaim.holds_of_wide 8 Tryz.f8 rfl rfl rfl rfl rfl rfl rfl ⟨rfl, rfl, rfl, rfl, rfl⟩ rfl rfl rfl rfl rfl viewNil_named Tryz.func8 viewNil_facts
    viewNil_inst viewNil_wrap
    (fun os started H enc _ => viewNil_lifted os started H enc)

theorem viewNil_holds : Rows.ViewNilCardSaid :=
  Claim7.holds_tied_plain_at .later [] [.data, .data, .data, .data, .pinned] true _ false viewNil_said (fun _ h => by cases h) viewNil_wf (fun _ h => by cases h) viewNil_row_tie rfl ⟨rfl, rfl⟩ viewNil_main rfl
    (fun f fn hf hfn => by
      obtain rfl : f = 8 := Option.some.inj (viewNil_named2.symm.trans hf) |>.symm
      obtain rfl : fn = Tryz.f8 := (Option.some.inj (Tryz.func8.symm.trans hfn)).symm
      exact ⟨viewNil_looks, fun j t ht => by
        rw [Tryz.params8] at ht
        have hm : t ∈ [3] := by simpa using Array.mem_of_getElem? ht
        exact (show Tryz.prog.wantsStandIn t = false by simpa using List.all_eq_true.1 viewNil_stand t hm)⟩)
    viewNil_goes

#print axioms viewNil_holds

end Go.Proofs.YtgkfknbhkonfdaaGreatDoor
