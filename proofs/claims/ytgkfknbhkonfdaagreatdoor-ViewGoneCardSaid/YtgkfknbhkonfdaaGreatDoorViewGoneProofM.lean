/-
  What is gone stays in the view until it is told, and what is told of it is its number among the rest: pillarboxlaw24.ViewGone returns true for every input, and turns nothing. The card: the listed tables as the program's text lays them.
-/
import Derived.Test.YtgkfknbhkonfdaaGreatDoorViewGoneWM
import Derived.Test.YtgkfknbhkonfdaaGreatDoorBoolsInM
import Derived.Test.YtgkfknbhkonfdaaGreatDoorTensVM
import Derived.Test.YtgkfknbhkonfdaaGreatDoorLawSM
import Derived.Test.YtgkfknbhkonfdaaGreatDoorJoinM
namespace Go.Proofs.YtgkfknbhkonfdaaGreatDoor
open Go.RowKit Go.ChangeShapes Go.WideShapes Go.ChangeAt
open Go.ChangeMaps (open_string)

set_option maxRecDepth 100000 in
theorem viewGone_lifted (os : Os) (started : os.Started) (H : Type) (enc : TypeId × Value → H) :
    ReturnsInHanded {} Tryz.checked os 4 .any (fun w args => (Rows.viewGoneSpec.pre enc Tryz.prog Tryz.f4 [] false w args ∧ laidMetH Tryz.prog Rows.viewGoneRow.laid w) ∧ sizedMet enc Tryz.prog Tryz.f4 (OpenSpec.ofChange Rows.viewGoneSpec) false w args)
      (Rows.viewGoneSpec.post enc Tryz.prog Tryz.f4 false true false false) := by
  refine lifted_listed (C := Tryz.checked) (X := fun w => laidMetH Tryz.prog Rows.viewGoneRow.laid w) (v0 := #[.int .u8 0, .slice none 0 0]) (fun _ _ hh h => h.of_heap hh) Try.own started (by kernel_rfl) Tryz.func4
    (World.laidAll Tryz.prog os Rows.viewGoneRow.laid) 8 (World.laidAll_os _ _ _) (World.shaped_of_ZipB (by kernel_rfl) (by kernel_rfl)) (by kernel_rfl) (by kernel_rfl) (by kernel_rfl)
    (by rw [MakeChecks.laidMetH_plain _ _ _ (by kernel_rfl)]; exact laidMet_laidAll _ (by kernel_rfl) (by kernel_rfl)) ?_
  intro W base args ds gs before hval0 hW hsz0 hL hsh
  have hsz : (DataW.weightsEach Tryz.prog (Tryz.f4.params.toList ++ Rows.viewGoneSpec.plain.varTypes Tryz.prog) (ds ++ gs)).all (· ≤ reachBytes) = true := hsz0
  have hval : ∀ (j : Nat) t v, Tryz.f4.params[j]? = some t → args[j]? = some v → Value.okWide Tryz.prog W .any base t v := hval0
  have hW' := hW
  obtain ⟨p, q, hA0, hV, rfl, _, _⟩ := hW
  have hA : DataW.TrodAll enc Tryz.prog W 0 (fun _ => true) true Tryz.f4.params.toList args.toList ds p := hA0
  rw [Tryz.params4] at hA hval hsz
  obtain ⟨v0, v1, d0, d1, p0, p1, rfl, rfl, rfl, h0, h1⟩ := trodAll_two hA
  obtain ⟨rfl, rfl⟩ := trodVars_none hV
  obtain ⟨n0, rfl, rfl, rfl, w0⟩ := open_int Tryz.underlying5 (hval 0 5 v0 rfl rfl) h0
  obtain ⟨k0, rfl, l0⟩ := wf_u8' w0
  obtain ⟨fuel1, hf1⟩ := h1
  have hc1 : ∃ A n cap, v1 = .slice A n cap := okWide_slice Tryz.underlying48 (hval 1 48 v1 rfl rfl)
  obtain ⟨A1, n1, cap1, rfl⟩ := hc1
  obtain ⟨gs, hr1⟩ := bools_in Tryz.underlying48 Tryz.underlying4 (by kernel_rfl) hf1
  rw [MakeChecks.laidMetH_plain _ _ _ (by kernel_rfl)] at hL
  have ht : TensV W := tensV_of_laid hL (by simp [Rows.viewGoneRow])
  clear hA0 hval0 hsz0
  refine (viewGone_any k0 l0 _ gs W hr1 ht).mono fun e W' ⟨he, hb⟩ => ⟨_, he, ?_⟩
  exact law_post Try.laidOut (by kernel_rfl) rfl rfl Tryz.underlying4 hW' rfl hb

theorem viewGone_named : Tryz.prog.funcNamed Rows.viewGoneRow.func = some 4 := by kernel_rfl
theorem viewGone_named2 : Tryz.prog.funcNamed "pillarbox/pillarboxlaw24.ViewGone" = some 4 := viewGone_named
theorem viewGone_j0 : Jn.j0 Tryz.prog 4 Tryz.f4 Rows.viewGoneSpec Rows.viewGoneRow = true := by kernel_rfl
theorem viewGone_j1 : Jn.j1 Tryz.prog 4 Tryz.f4 Rows.viewGoneSpec Rows.viewGoneRow = true := by kernel_rfl
theorem viewGone_j2 : Jn.j2 Tryz.prog 4 Tryz.f4 Rows.viewGoneSpec Rows.viewGoneRow = true := by kernel_rfl
theorem viewGone_j3 : Jn.j3 Tryz.prog 4 Tryz.f4 Rows.viewGoneSpec Rows.viewGoneRow = true := by kernel_rfl
theorem viewGone_j4 : Jn.j4 Tryz.prog 4 Tryz.f4 Rows.viewGoneSpec Rows.viewGoneRow = true := by kernel_rfl
theorem viewGone_j5 : Jn.j5 Tryz.prog 4 Tryz.f4 Rows.viewGoneSpec Rows.viewGoneRow = true := by kernel_rfl
theorem viewGone_j6 : Jn.j6 Tryz.prog 4 Tryz.f4 Rows.viewGoneSpec Rows.viewGoneRow = true := by kernel_rfl
theorem viewGone_j7 : Jn.j7 Tryz.prog 4 Tryz.f4 Rows.viewGoneSpec Rows.viewGoneRow = true := by kernel_rfl
theorem viewGone_j8 : Jn.j8 Tryz.prog 4 Tryz.f4 Rows.viewGoneSpec Rows.viewGoneRow = true := by kernel_rfl
theorem viewGone_j9 : Jn.j9 Tryz.prog 4 Tryz.f4 Rows.viewGoneSpec Rows.viewGoneRow = true := by kernel_rfl
theorem viewGone_j10 : Jn.j10 Tryz.prog 4 Tryz.f4 Rows.viewGoneSpec Rows.viewGoneRow = true := by kernel_rfl
theorem viewGone_j11 : Jn.j11 Tryz.prog 4 Tryz.f4 Rows.viewGoneSpec Rows.viewGoneRow = true := by kernel_rfl
theorem viewGone_j12 : Jn.j12 Tryz.prog 4 Tryz.f4 Rows.viewGoneSpec Rows.viewGoneRow = true := by kernel_rfl
theorem viewGone_j13 : Jn.j13 Tryz.prog 4 Tryz.f4 Rows.viewGoneSpec Rows.viewGoneRow = true := by kernel_rfl
theorem viewGone_j14 : Jn.j14 Tryz.prog 4 Tryz.f4 Rows.viewGoneSpec Rows.viewGoneRow = true := by kernel_rfl
theorem viewGone_j15 : Jn.j15 Tryz.prog 4 Tryz.f4 Rows.viewGoneSpec Rows.viewGoneRow = true := by kernel_rfl
theorem viewGone_j16 : Jn.j16 Tryz.prog 4 Tryz.f4 Rows.viewGoneSpec Rows.viewGoneRow = true := by kernel_rfl
theorem viewGone_j17 : Jn.j17 Tryz.prog 4 Tryz.f4 Rows.viewGoneSpec Rows.viewGoneRow = true := by kernel_rfl
theorem viewGone_j18 : Jn.j18 Tryz.prog 4 Tryz.f4 Rows.viewGoneSpec Rows.viewGoneRow = true := by kernel_rfl
theorem viewGone_j19 : Jn.j19 Tryz.prog 4 Tryz.f4 Rows.viewGoneSpec Rows.viewGoneRow = true := by kernel_rfl
theorem viewGone_j20 : Jn.j20 Tryz.prog 4 Tryz.f4 Rows.viewGoneSpec Rows.viewGoneRow = true := by kernel_rfl
theorem viewGone_j21 : Jn.j21 Tryz.prog 4 Tryz.f4 Rows.viewGoneSpec Rows.viewGoneRow = true := by kernel_rfl
theorem viewGone_j22 : Jn.j22 Tryz.prog 4 Tryz.f4 Rows.viewGoneSpec Rows.viewGoneRow = true := by kernel_rfl
theorem viewGone_j23 : Jn.j23 Tryz.prog 4 Tryz.f4 Rows.viewGoneSpec Rows.viewGoneRow = true := by kernel_rfl
theorem viewGone_j24 : Jn.j24 Tryz.prog 4 Tryz.f4 Rows.viewGoneSpec Rows.viewGoneRow = true := by kernel_rfl
theorem viewGone_j25 : Jn.j25 Tryz.prog 4 Tryz.f4 Rows.viewGoneSpec Rows.viewGoneRow = true := by kernel_rfl
theorem viewGone_j26 : Jn.j26 Tryz.prog 4 Tryz.f4 Rows.viewGoneSpec Rows.viewGoneRow = true := by kernel_rfl
theorem viewGone_j27 : Jn.j27 Tryz.prog 4 Tryz.f4 Rows.viewGoneSpec Rows.viewGoneRow = true := by kernel_rfl
theorem viewGone_j28 : Jn.j28 Tryz.prog 4 Tryz.f4 Rows.viewGoneSpec Rows.viewGoneRow = true := by kernel_rfl
theorem viewGone_j29 : Jn.j29 Tryz.prog 4 Tryz.f4 Rows.viewGoneSpec Rows.viewGoneRow = true := by kernel_rfl
theorem viewGone_j30 : Jn.j30 Tryz.prog 4 Tryz.f4 Rows.viewGoneSpec Rows.viewGoneRow = true := by kernel_rfl
theorem viewGone_j31 : Jn.j31 Tryz.prog 4 Tryz.f4 Rows.viewGoneSpec Rows.viewGoneRow = true := by kernel_rfl
theorem viewGone_facts : joinedFacts Tryz.prog 4 Tryz.f4 Rows.viewGoneSpec Rows.viewGoneRow = true := joined_of viewGone_j0 viewGone_j1 viewGone_j2 viewGone_j3 viewGone_j4 viewGone_j5 viewGone_j6 viewGone_j7 viewGone_j8 viewGone_j9 viewGone_j10 viewGone_j11 viewGone_j12 viewGone_j13 viewGone_j14 viewGone_j15 viewGone_j16 viewGone_j17 viewGone_j18 viewGone_j19 viewGone_j20 viewGone_j21 viewGone_j22 viewGone_j23 viewGone_j24 viewGone_j25 viewGone_j26 viewGone_j27 viewGone_j28 viewGone_j29 viewGone_j30 viewGone_j31
theorem viewGone_inst : Tryz.f4.isInstance Tryz.prog Rows.viewGoneRow.origin Rows.viewGoneRow.targs := of_decide_eq_true (by kernel_rfl)
theorem viewGone_wrap : Tryz.f4.isWrapper Tryz.prog Rows.viewGoneRow.wrapper Rows.viewGoneRow.mainSum := by unfold Func.isWrapper; rw [if_neg (of_decide_eq_false (by kernel_rfl))]; exact ⟨rfl, rfl⟩
theorem viewGone_wf : Rows.viewGoneRow.wfByText (OpenSpec.ofChange Rows.viewGoneSpec) = true := by kernel_rfl
theorem viewGone_main : Tryz.prog.mainIs = some (Rows.viewGoneCard.stood.harness.1, Rows.viewGoneCard.stood.harness.2.toList) := by kernel_rfl
theorem viewGone_looks : false = Tryz.prog.looks [] := by kernel_rfl
theorem viewGone_stand : ([5, 48].all fun u => !Tryz.prog.wantsStandIn u) = true := by kernel_rfl
theorem viewGone_goes : false = Rows.viewGoneRow.goesBy Tryz.prog := by kernel_rfl

theorem viewGone_said : Rows.ViewGoneSaid :=
  OpenClaim.holds_of_wide 4 Tryz.f4 rfl rfl rfl rfl rfl rfl rfl ⟨rfl, rfl, rfl, rfl, rfl⟩ rfl rfl rfl rfl rfl viewGone_named Tryz.func4 viewGone_facts
    viewGone_inst viewGone_wrap
    (fun os started H enc _ => viewGone_lifted os started H enc)

theorem viewGone_holds : Rows.ViewGoneCardSaid :=
  Claim7.holds_tied_plain_at .later [] [.data, .data, .data, .data, .pinned] true _ false viewGone_said (fun _ h => by cases h) viewGone_wf (fun _ h => by cases h) viewGone_row_tie rfl ⟨rfl, rfl⟩ viewGone_main rfl
    (fun f fn hf hfn => by
      obtain rfl : f = 4 := Option.some.inj (viewGone_named2.symm.trans hf) |>.symm
      obtain rfl : fn = Tryz.f4 := (Option.some.inj (Tryz.func4.symm.trans hfn)).symm
      exact ⟨viewGone_looks, fun j t ht => by
        rw [Tryz.params4] at ht
        have hm : t ∈ [5, 48] := by simpa using Array.mem_of_getElem? ht
        exact (show Tryz.prog.wantsStandIn t = false by simpa using List.all_eq_true.1 viewGone_stand t hm)⟩)
    viewGone_goes

#print axioms viewGone_holds

end Go.Proofs.YtgkfknbhkonfdaaGreatDoor
