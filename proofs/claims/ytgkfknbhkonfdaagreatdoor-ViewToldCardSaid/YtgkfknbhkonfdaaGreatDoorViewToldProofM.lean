/-
  A change of the flags is told once, and told all over when a client says so: pillarboxlaw24.ViewTold returns true for every input, and turns nothing. The card: the listed tables as the program's text lays them.
-/
import Derived.Test.YtgkfknbhkonfdaaGreatDoorViewToldWM
import Derived.Test.YtgkfknbhkonfdaaGreatDoorTensVM
import Derived.Test.YtgkfknbhkonfdaaGreatDoorLawSM
import Derived.Test.YtgkfknbhkonfdaaGreatDoorJoinM
namespace Go.Proofs.YtgkfknbhkonfdaaGreatDoor
open Go.RowKit Go.ChangeShapes Go.WideShapes Go.ChangeAt
open Go.ChangeMaps (open_string)

set_option maxRecDepth 100000 in
theorem viewTold_lifted (os : Os) (started : os.Started) (H : Type) (enc : TypeId × Value → H) :
    ReturnsInHanded {} Tryz.checked os 5 .any (fun w args => (Rows.viewToldSpec.pre enc Tryz.prog Tryz.f5 [] false w args ∧ laidMetH Tryz.prog Rows.viewToldRow.laid w) ∧ sizedMet enc Tryz.prog Tryz.f5 (OpenSpec.ofChange Rows.viewToldSpec) false w args)
      (Rows.viewToldSpec.post enc Tryz.prog Tryz.f5 false true false false) := by
  refine lifted_listed (C := Tryz.checked) (X := fun w => laidMetH Tryz.prog Rows.viewToldRow.laid w) (v0 := #[.bool false, .bool false]) (fun _ _ hh h => h.of_heap hh) Try.own started (by kernel_rfl) Tryz.func5
    (World.laidAll Tryz.prog os Rows.viewToldRow.laid) 8 (World.laidAll_os _ _ _) (World.shaped_of_ZipB (by kernel_rfl) (by kernel_rfl)) (by kernel_rfl) (by kernel_rfl) (by kernel_rfl)
    (by rw [MakeChecks.laidMetH_plain _ _ _ (by kernel_rfl)]; exact laidMet_laidAll _ (by kernel_rfl) (by kernel_rfl)) ?_
  intro W base args ds gs before hval0 hW hsz0 hL hsh
  have hsz : (DataW.weightsEach Tryz.prog (Tryz.f5.params.toList ++ Rows.viewToldSpec.plain.varTypes Tryz.prog) (ds ++ gs)).all (· ≤ reachBytes) = true := hsz0
  have hval : ∀ (j : Nat) t v, Tryz.f5.params[j]? = some t → args[j]? = some v → Value.okWide Tryz.prog W .any base t v := hval0
  have hW' := hW
  obtain ⟨p, q, hA0, hV, rfl, _, _⟩ := hW
  have hA : DataW.TrodAll enc Tryz.prog W 0 (fun _ => true) true Tryz.f5.params.toList args.toList ds p := hA0
  rw [Tryz.params5] at hA hval hsz
  obtain ⟨v0, v1, d0, d1, p0, p1, rfl, rfl, rfl, h0, h1⟩ := trodAll_two hA
  obtain ⟨rfl, rfl⟩ := trodVars_none hV
  obtain ⟨b0, rfl, rfl, rfl⟩ := open_bool Tryz.underlying4 (hval 0 4 v0 rfl rfl) h0
  obtain ⟨b1, rfl, rfl, rfl⟩ := open_bool Tryz.underlying4 (hval 1 4 v1 rfl rfl) h1
  rw [MakeChecks.laidMetH_plain _ _ _ (by kernel_rfl)] at hL
  have ht : TensV W := tensV_of_laid hL (by simp [Rows.viewToldRow])
  clear hA0 hval0 hsz0
  refine (viewTold_any b0 b1 W ht).mono fun e W' ⟨he, hb⟩ => ⟨_, he, ?_⟩
  exact law_post Try.laidOut (by kernel_rfl) rfl rfl Tryz.underlying4 hW' rfl hb

theorem viewTold_named : Tryz.prog.funcNamed Rows.viewToldRow.func = some 5 := by kernel_rfl
theorem viewTold_named2 : Tryz.prog.funcNamed "pillarbox/pillarboxlaw24.ViewTold" = some 5 := viewTold_named
theorem viewTold_j0 : Jn.j0 Tryz.prog 5 Tryz.f5 Rows.viewToldSpec Rows.viewToldRow = true := by kernel_rfl
theorem viewTold_j1 : Jn.j1 Tryz.prog 5 Tryz.f5 Rows.viewToldSpec Rows.viewToldRow = true := by kernel_rfl
theorem viewTold_j2 : Jn.j2 Tryz.prog 5 Tryz.f5 Rows.viewToldSpec Rows.viewToldRow = true := by kernel_rfl
theorem viewTold_j3 : Jn.j3 Tryz.prog 5 Tryz.f5 Rows.viewToldSpec Rows.viewToldRow = true := by kernel_rfl
theorem viewTold_j4 : Jn.j4 Tryz.prog 5 Tryz.f5 Rows.viewToldSpec Rows.viewToldRow = true := by kernel_rfl
theorem viewTold_j5 : Jn.j5 Tryz.prog 5 Tryz.f5 Rows.viewToldSpec Rows.viewToldRow = true := by kernel_rfl
theorem viewTold_j6 : Jn.j6 Tryz.prog 5 Tryz.f5 Rows.viewToldSpec Rows.viewToldRow = true := by kernel_rfl
theorem viewTold_j7 : Jn.j7 Tryz.prog 5 Tryz.f5 Rows.viewToldSpec Rows.viewToldRow = true := by kernel_rfl
theorem viewTold_j8 : Jn.j8 Tryz.prog 5 Tryz.f5 Rows.viewToldSpec Rows.viewToldRow = true := by kernel_rfl
theorem viewTold_j9 : Jn.j9 Tryz.prog 5 Tryz.f5 Rows.viewToldSpec Rows.viewToldRow = true := by kernel_rfl
theorem viewTold_j10 : Jn.j10 Tryz.prog 5 Tryz.f5 Rows.viewToldSpec Rows.viewToldRow = true := by kernel_rfl
theorem viewTold_j11 : Jn.j11 Tryz.prog 5 Tryz.f5 Rows.viewToldSpec Rows.viewToldRow = true := by kernel_rfl
theorem viewTold_j12 : Jn.j12 Tryz.prog 5 Tryz.f5 Rows.viewToldSpec Rows.viewToldRow = true := by kernel_rfl
theorem viewTold_j13 : Jn.j13 Tryz.prog 5 Tryz.f5 Rows.viewToldSpec Rows.viewToldRow = true := by kernel_rfl
theorem viewTold_j14 : Jn.j14 Tryz.prog 5 Tryz.f5 Rows.viewToldSpec Rows.viewToldRow = true := by kernel_rfl
theorem viewTold_j15 : Jn.j15 Tryz.prog 5 Tryz.f5 Rows.viewToldSpec Rows.viewToldRow = true := by kernel_rfl
theorem viewTold_j16 : Jn.j16 Tryz.prog 5 Tryz.f5 Rows.viewToldSpec Rows.viewToldRow = true := by kernel_rfl
theorem viewTold_j17 : Jn.j17 Tryz.prog 5 Tryz.f5 Rows.viewToldSpec Rows.viewToldRow = true := by kernel_rfl
theorem viewTold_j18 : Jn.j18 Tryz.prog 5 Tryz.f5 Rows.viewToldSpec Rows.viewToldRow = true := by kernel_rfl
theorem viewTold_j19 : Jn.j19 Tryz.prog 5 Tryz.f5 Rows.viewToldSpec Rows.viewToldRow = true := by kernel_rfl
theorem viewTold_j20 : Jn.j20 Tryz.prog 5 Tryz.f5 Rows.viewToldSpec Rows.viewToldRow = true := by kernel_rfl
theorem viewTold_j21 : Jn.j21 Tryz.prog 5 Tryz.f5 Rows.viewToldSpec Rows.viewToldRow = true := by kernel_rfl
theorem viewTold_j22 : Jn.j22 Tryz.prog 5 Tryz.f5 Rows.viewToldSpec Rows.viewToldRow = true := by kernel_rfl
theorem viewTold_j23 : Jn.j23 Tryz.prog 5 Tryz.f5 Rows.viewToldSpec Rows.viewToldRow = true := by kernel_rfl
theorem viewTold_j24 : Jn.j24 Tryz.prog 5 Tryz.f5 Rows.viewToldSpec Rows.viewToldRow = true := by kernel_rfl
theorem viewTold_j25 : Jn.j25 Tryz.prog 5 Tryz.f5 Rows.viewToldSpec Rows.viewToldRow = true := by kernel_rfl
theorem viewTold_j26 : Jn.j26 Tryz.prog 5 Tryz.f5 Rows.viewToldSpec Rows.viewToldRow = true := by kernel_rfl
theorem viewTold_j27 : Jn.j27 Tryz.prog 5 Tryz.f5 Rows.viewToldSpec Rows.viewToldRow = true := by kernel_rfl
theorem viewTold_j28 : Jn.j28 Tryz.prog 5 Tryz.f5 Rows.viewToldSpec Rows.viewToldRow = true := by kernel_rfl
theorem viewTold_j29 : Jn.j29 Tryz.prog 5 Tryz.f5 Rows.viewToldSpec Rows.viewToldRow = true := by kernel_rfl
theorem viewTold_j30 : Jn.j30 Tryz.prog 5 Tryz.f5 Rows.viewToldSpec Rows.viewToldRow = true := by kernel_rfl
theorem viewTold_j31 : Jn.j31 Tryz.prog 5 Tryz.f5 Rows.viewToldSpec Rows.viewToldRow = true := by kernel_rfl
theorem viewTold_facts : joinedFacts Tryz.prog 5 Tryz.f5 Rows.viewToldSpec Rows.viewToldRow = true := joined_of viewTold_j0 viewTold_j1 viewTold_j2 viewTold_j3 viewTold_j4 viewTold_j5 viewTold_j6 viewTold_j7 viewTold_j8 viewTold_j9 viewTold_j10 viewTold_j11 viewTold_j12 viewTold_j13 viewTold_j14 viewTold_j15 viewTold_j16 viewTold_j17 viewTold_j18 viewTold_j19 viewTold_j20 viewTold_j21 viewTold_j22 viewTold_j23 viewTold_j24 viewTold_j25 viewTold_j26 viewTold_j27 viewTold_j28 viewTold_j29 viewTold_j30 viewTold_j31
theorem viewTold_inst : Tryz.f5.isInstance Tryz.prog Rows.viewToldRow.origin Rows.viewToldRow.targs := of_decide_eq_true (by kernel_rfl)
theorem viewTold_wrap : Tryz.f5.isWrapper Tryz.prog Rows.viewToldRow.wrapper Rows.viewToldRow.mainSum := by unfold Func.isWrapper; rw [if_neg (of_decide_eq_false (by kernel_rfl))]; exact ⟨rfl, rfl⟩
theorem viewTold_wf : Rows.viewToldRow.wfByText (OpenSpec.ofChange Rows.viewToldSpec) = true := by kernel_rfl
theorem viewTold_main : Tryz.prog.mainIs = some (Rows.viewToldCard.stood.harness.1, Rows.viewToldCard.stood.harness.2.toList) := by kernel_rfl
theorem viewTold_looks : false = Tryz.prog.looks [] := by kernel_rfl
theorem viewTold_stand : ([4, 4].all fun u => !Tryz.prog.wantsStandIn u) = true := by kernel_rfl
theorem viewTold_goes : false = Rows.viewToldRow.goesBy Tryz.prog := by kernel_rfl

theorem viewTold_said : Rows.ViewToldSaid :=
  OpenClaim.holds_of_wide 5 Tryz.f5 rfl rfl rfl rfl rfl rfl rfl ⟨rfl, rfl, rfl, rfl, rfl⟩ rfl rfl rfl rfl rfl viewTold_named Tryz.func5 viewTold_facts
    viewTold_inst viewTold_wrap
    (fun os started H enc _ => viewTold_lifted os started H enc)

theorem viewTold_holds : Rows.ViewToldCardSaid :=
  Claim7.holds_tied_plain_at .later [] [.data, .data, .data, .data, .pinned] true _ false viewTold_said (fun _ h => by cases h) viewTold_wf (fun _ h => by cases h) viewTold_row_tie rfl ⟨rfl, rfl⟩ viewTold_main rfl
    (fun f fn hf hfn => by
      obtain rfl : f = 5 := Option.some.inj (viewTold_named2.symm.trans hf) |>.symm
      obtain rfl : fn = Tryz.f5 := (Option.some.inj (Tryz.func5.symm.trans hfn)).symm
      exact ⟨viewTold_looks, fun j t ht => by
        rw [Tryz.params5] at ht
        have hm : t ∈ [4, 4] := by simpa using Array.mem_of_getElem? ht
        exact (show Tryz.prog.wantsStandIn t = false by simpa using List.all_eq_true.1 viewTold_stand t hm)⟩)
    viewTold_goes

#print axioms viewTold_holds

end Go.Proofs.YtgkfknbhkonfdaaGreatDoor
