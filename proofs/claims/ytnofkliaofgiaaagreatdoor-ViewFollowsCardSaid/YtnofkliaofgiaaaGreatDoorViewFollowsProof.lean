/-
  Who goes by the lines has the messages of the mailbox behind each update of all, and none that the view has not: pillarboxlaw24.ViewFollows returns true for every input, and turns nothing. The card: the listed tables as the program's text lays them.
-/
import Derived.Test.YtnofkliaofgiaaaGreatDoorGWE
import Derived.Test.YtnofkliaofgiaaaGreatDoorGVJ
import Derived.Test.YtnofkliaofgiaaaGreatDoorGV
import Derived.Test.YtnofkliaofgiaaaGreatDoorGLW
namespace Go.Proofs.YtnofkliaofgiaaaGreatDoor
open Go.RowKit Go.ChangeShapes Go.WideShapes Go.ChangeAt
open Go.ChangeMaps (open_string)
set_option maxRecDepth 100000 in
theorem viewFollows_lifted (os : Os) (started : os.Started) (H : Type) (enc : TypeId × Value → H) :
    ReturnsInHanded {} Tryz.checked os 3 .any (fun w args => (Rows.viewFollowsSpec.pre enc Tryz.prog Tryz.f3 [] false w args ∧ laidMetH Tryz.prog Rows.viewFollowsRow.laid w) ∧ sizedMet enc Tryz.prog Tryz.f3 (OpenSpec.ofChange Rows.viewFollowsSpec) false w args)
      (Rows.viewFollowsSpec.post enc Tryz.prog Tryz.f3 false true false false) := by
  refine Uv (CC := Tryz.checked) (X := fun w => laidMetH Tryz.prog Rows.viewFollowsRow.laid w) (v0 := #[.slice none 0 0, .slice none 0 0]) (fun _ _ hh h => h.of_heap hh) Try.own started (by kernel_rfl) Tryz.func3
    (World.laidAll Tryz.prog os Rows.viewFollowsRow.laid) 8 (World.laidAll_os _ _ _) (World.shaped_of_ZipB (by kernel_rfl) (by kernel_rfl)) (by kernel_rfl) (by kernel_rfl) (by kernel_rfl)
    (by rw [MakeChecks.laidMetH_plain _ _ _ (by kernel_rfl)]; exact laidMet_laidAll _ (by kernel_rfl) (by kernel_rfl)) ?_
  intro W base args ds gs before hval0 hW hsz0 hL hsh
  have hsz : (DataW.weightsEach Tryz.prog (Tryz.f3.params.toList ++ Rows.viewFollowsSpec.plain.varTypes Tryz.prog) (ds ++ gs)).all (· ≤ reachBytes) = true := hsz0
  have hval : ∀ (j : Nat) t v, Tryz.f3.params[j]? = some t → args[j]? = some v → Value.okWide Tryz.prog W .any base t v := hval0
  have hW' := hW
  obtain ⟨p, q, hA0, hV, rfl, _, _⟩ := hW
  have hA : DataW.TrodAll enc Tryz.prog W 0 (fun _ => true) true Tryz.f3.params.toList args.toList ds p := hA0
  rw [Tryz.params3] at hA hval hsz
  obtain ⟨v0, v1, d0, d1, p0, p1, rfl, rfl, rfl, h0, h1⟩ := trodAll_two hA
  obtain ⟨rfl, rfl⟩ := trodVars_none hV
  obtain ⟨fuel0, hf0⟩ := h0
  have hc0 : ∃ A n cap, v0 = .slice A n cap := okWide_slice Tryz.underlying22 (hval 0 22 v0 rfl rfl)
  obtain ⟨A0, n0, cap0, rfl⟩ := hc0
  obtain ⟨as0, hr0, ha0⟩ := wW hf0
  obtain ⟨fuel1, hf1⟩ := h1
  have hc1 : ∃ A n cap, v1 = .slice A n cap := okWide_slice Tryz.underlying23 (hval 1 23 v1 rfl rfl)
  obtain ⟨A1, n1, cap1, rfl⟩ := hc1
  obtain ⟨as1, hr1, ha1⟩ := rF hf1
  rw [MakeChecks.laidMetH_plain _ _ _ (by kernel_rfl)] at hL
  have ht : Vm W := UJ hL (by simp [Rows.viewFollowsRow])
  clear hA0 hval0 hsz0
  refine (aK W ht _ as0 _ as1 hr0 ha0 hr1 ha1).mono fun e W' ⟨he, hb⟩ => ⟨_, he, ?_⟩
  exact qW Try.laidOut (by kernel_rfl) rfl rfl Tryz.underlying4 hW' rfl hb
theorem viewFollows_named : Tryz.prog.funcNamed Rows.viewFollowsRow.func = some 3 := by kernel_rfl
theorem viewFollows_named2 : Tryz.prog.funcNamed "pillarbox/pillarboxlaw24.ViewFollows" = some 3 := viewFollows_named
theorem viewFollows_j0 : Jn.j0 Tryz.prog 3 Tryz.f3 Rows.viewFollowsSpec Rows.viewFollowsRow = true := by kernel_rfl
theorem viewFollows_j1 : Jn.j1 Tryz.prog 3 Tryz.f3 Rows.viewFollowsSpec Rows.viewFollowsRow = true := by kernel_rfl
theorem viewFollows_j2 : Jn.j2 Tryz.prog 3 Tryz.f3 Rows.viewFollowsSpec Rows.viewFollowsRow = true := by kernel_rfl
theorem viewFollows_j3 : Jn.j3 Tryz.prog 3 Tryz.f3 Rows.viewFollowsSpec Rows.viewFollowsRow = true := by kernel_rfl
theorem viewFollows_j4 : Jn.j4 Tryz.prog 3 Tryz.f3 Rows.viewFollowsSpec Rows.viewFollowsRow = true := by kernel_rfl
theorem viewFollows_j5 : Jn.j5 Tryz.prog 3 Tryz.f3 Rows.viewFollowsSpec Rows.viewFollowsRow = true := by kernel_rfl
theorem viewFollows_j6 : Jn.j6 Tryz.prog 3 Tryz.f3 Rows.viewFollowsSpec Rows.viewFollowsRow = true := by kernel_rfl
theorem viewFollows_j7 : Jn.j7 Tryz.prog 3 Tryz.f3 Rows.viewFollowsSpec Rows.viewFollowsRow = true := by kernel_rfl
theorem viewFollows_j8 : Jn.j8 Tryz.prog 3 Tryz.f3 Rows.viewFollowsSpec Rows.viewFollowsRow = true := by kernel_rfl
theorem viewFollows_j9 : Jn.j9 Tryz.prog 3 Tryz.f3 Rows.viewFollowsSpec Rows.viewFollowsRow = true := by kernel_rfl
theorem viewFollows_j10 : Jn.j10 Tryz.prog 3 Tryz.f3 Rows.viewFollowsSpec Rows.viewFollowsRow = true := by kernel_rfl
theorem viewFollows_j11 : Jn.j11 Tryz.prog 3 Tryz.f3 Rows.viewFollowsSpec Rows.viewFollowsRow = true := by kernel_rfl
theorem viewFollows_j12 : Jn.j12 Tryz.prog 3 Tryz.f3 Rows.viewFollowsSpec Rows.viewFollowsRow = true := by kernel_rfl
theorem viewFollows_j13 : Jn.j13 Tryz.prog 3 Tryz.f3 Rows.viewFollowsSpec Rows.viewFollowsRow = true := by kernel_rfl
theorem viewFollows_j14 : Jn.j14 Tryz.prog 3 Tryz.f3 Rows.viewFollowsSpec Rows.viewFollowsRow = true := by kernel_rfl
theorem viewFollows_j15 : Jn.j15 Tryz.prog 3 Tryz.f3 Rows.viewFollowsSpec Rows.viewFollowsRow = true := by kernel_rfl
theorem viewFollows_j16 : Jn.j16 Tryz.prog 3 Tryz.f3 Rows.viewFollowsSpec Rows.viewFollowsRow = true := by kernel_rfl
theorem viewFollows_j17 : Jn.j17 Tryz.prog 3 Tryz.f3 Rows.viewFollowsSpec Rows.viewFollowsRow = true := by kernel_rfl
theorem viewFollows_j18 : Jn.j18 Tryz.prog 3 Tryz.f3 Rows.viewFollowsSpec Rows.viewFollowsRow = true := by kernel_rfl
theorem viewFollows_j19 : Jn.j19 Tryz.prog 3 Tryz.f3 Rows.viewFollowsSpec Rows.viewFollowsRow = true := by kernel_rfl
theorem viewFollows_j20 : Jn.j20 Tryz.prog 3 Tryz.f3 Rows.viewFollowsSpec Rows.viewFollowsRow = true := by kernel_rfl
theorem viewFollows_j21 : Jn.j21 Tryz.prog 3 Tryz.f3 Rows.viewFollowsSpec Rows.viewFollowsRow = true := by kernel_rfl
theorem viewFollows_j22 : Jn.j22 Tryz.prog 3 Tryz.f3 Rows.viewFollowsSpec Rows.viewFollowsRow = true := by kernel_rfl
theorem viewFollows_j23 : Jn.j23 Tryz.prog 3 Tryz.f3 Rows.viewFollowsSpec Rows.viewFollowsRow = true := by kernel_rfl
theorem viewFollows_j24 : Jn.j24 Tryz.prog 3 Tryz.f3 Rows.viewFollowsSpec Rows.viewFollowsRow = true := by kernel_rfl
theorem viewFollows_j25 : Jn.j25 Tryz.prog 3 Tryz.f3 Rows.viewFollowsSpec Rows.viewFollowsRow = true := by kernel_rfl
theorem viewFollows_j26 : Jn.j26 Tryz.prog 3 Tryz.f3 Rows.viewFollowsSpec Rows.viewFollowsRow = true := by kernel_rfl
theorem viewFollows_j27 : Jn.j27 Tryz.prog 3 Tryz.f3 Rows.viewFollowsSpec Rows.viewFollowsRow = true := by kernel_rfl
theorem viewFollows_j28 : Jn.j28 Tryz.prog 3 Tryz.f3 Rows.viewFollowsSpec Rows.viewFollowsRow = true := by kernel_rfl
theorem viewFollows_j29 : Jn.j29 Tryz.prog 3 Tryz.f3 Rows.viewFollowsSpec Rows.viewFollowsRow = true := by kernel_rfl
theorem viewFollows_j30 : Jn.j30 Tryz.prog 3 Tryz.f3 Rows.viewFollowsSpec Rows.viewFollowsRow = true := by kernel_rfl
theorem viewFollows_j31 : Jn.j31 Tryz.prog 3 Tryz.f3 Rows.viewFollowsSpec Rows.viewFollowsRow = true := by kernel_rfl
theorem viewFollows_facts : joinedFacts Tryz.prog 3 Tryz.f3 Rows.viewFollowsSpec Rows.viewFollowsRow = true := jE viewFollows_j0 viewFollows_j1 viewFollows_j2 viewFollows_j3 viewFollows_j4 viewFollows_j5 viewFollows_j6 viewFollows_j7 viewFollows_j8 viewFollows_j9 viewFollows_j10 viewFollows_j11 viewFollows_j12 viewFollows_j13 viewFollows_j14 viewFollows_j15 viewFollows_j16 viewFollows_j17 viewFollows_j18 viewFollows_j19 viewFollows_j20 viewFollows_j21 viewFollows_j22 viewFollows_j23 viewFollows_j24 viewFollows_j25 viewFollows_j26 viewFollows_j27 viewFollows_j28 viewFollows_j29 viewFollows_j30 viewFollows_j31
theorem viewFollows_inst : Tryz.f3.isInstance Tryz.prog Rows.viewFollowsRow.origin Rows.viewFollowsRow.targs := of_decide_eq_true (by kernel_rfl)
theorem viewFollows_wrap : Tryz.f3.isWrapper Tryz.prog Rows.viewFollowsRow.wrapper Rows.viewFollowsRow.mainSum := by unfold Func.isWrapper; rw [if_neg (of_decide_eq_false (by kernel_rfl))]; exact ⟨rfl, rfl⟩
theorem viewFollows_wf : Rows.viewFollowsRow.wfByText (OpenSpec.ofChange Rows.viewFollowsSpec) = true := by kernel_rfl
theorem viewFollows_main : Tryz.prog.mainIs = some (Rows.viewFollowsCard.stood.harness.1, Rows.viewFollowsCard.stood.harness.2.toList) := by kernel_rfl
theorem viewFollows_looks : false = Tryz.prog.looks [] := by kernel_rfl
theorem viewFollows_stand : ([22, 23].all fun u => !Tryz.prog.wantsStandIn u) = true := by kernel_rfl
theorem viewFollows_goes : false = Rows.viewFollowsRow.goesBy Tryz.prog := by kernel_rfl
theorem viewFollows_said : Rows.ViewFollowsSaid :=
  OpenClaim.holds_of_wide 3 Tryz.f3 rfl rfl rfl rfl rfl rfl rfl ⟨rfl, rfl, rfl, rfl, rfl⟩ rfl rfl rfl rfl rfl viewFollows_named Tryz.func3 viewFollows_facts
    viewFollows_inst viewFollows_wrap
    (fun os started H enc _ => viewFollows_lifted os started H enc)
theorem viewFollows_holds : Rows.ViewFollowsCardSaid :=
  Claim7.holds_tied_plain_at .later [] [.data, .data, .data, .data, .pinned] true _ false viewFollows_said (fun _ h => by cases h) viewFollows_wf (fun _ h => by cases h) viewFollows_row_tie rfl ⟨rfl, rfl⟩ viewFollows_main rfl
    (fun f fn hf hfn => by
      obtain rfl : f = 3 := Option.some.inj (viewFollows_named2.symm.trans hf) |>.symm
      obtain rfl : fn = Tryz.f3 := (Option.some.inj (Tryz.func3.symm.trans hfn)).symm
      exact ⟨viewFollows_looks, fun j t ht => by
        rw [Tryz.params3] at ht
        have hm : t ∈ [22, 23] := by simpa using Array.mem_of_getElem? ht
        exact (show Tryz.prog.wantsStandIn t = false by simpa using List.all_eq_true.1 viewFollows_stand t hm)⟩)
    viewFollows_goes
#print axioms viewFollows_holds
end Go.Proofs.YtnofkliaofgiaaaGreatDoor
