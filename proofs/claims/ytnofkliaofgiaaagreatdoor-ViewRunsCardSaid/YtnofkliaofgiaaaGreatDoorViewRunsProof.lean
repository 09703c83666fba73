/-
  Whatever befalls an account, a view tells, and has, what the document says: pillarboxlaw24.ViewRuns returns true for every input, and turns nothing. The card: the listed tables as the program's text lays them.
-/
import Derived.Test.YtnofkliaofgiaaaGreatDoorGVK
import Derived.Test.YtnofkliaofgiaaaGreatDoorGVJ
import Derived.Test.YtnofkliaofgiaaaGreatDoorGV
import Derived.Test.YtnofkliaofgiaaaGreatDoorGLW
namespace Go.Proofs.YtnofkliaofgiaaaGreatDoor
open Go.RowKit Go.ChangeShapes Go.WideShapes Go.ChangeAt
open Go.ChangeMaps (open_string)
set_option maxRecDepth 100000 in
theorem viewRuns_lifted (os : Os) (started : os.Started) (H : Type) (enc : TypeId × Value → H) :
    ReturnsInHanded {} Tryz.checked os 4 .any (fun w args => (Rows.viewRunsSpec.pre enc Tryz.prog Tryz.f4 [] false w args ∧ laidMetH Tryz.prog Rows.viewRunsRow.laid w) ∧ sizedMet enc Tryz.prog Tryz.f4 (OpenSpec.ofChange Rows.viewRunsSpec) false w args)
      (Rows.viewRunsSpec.post enc Tryz.prog Tryz.f4 false true false false) := by
  refine Uv (CC := Tryz.checked) (X := fun w => laidMetH Tryz.prog Rows.viewRunsRow.laid w) (v0 := #[.slice none 0 0, .int .i64 0, .slice none 0 0]) (fun _ _ hh h => h.of_heap hh) Try.own started (by kernel_rfl) Tryz.func4
    (World.laidAll Tryz.prog os Rows.viewRunsRow.laid) 8 (World.laidAll_os _ _ _) (World.shaped_of_ZipB (by kernel_rfl) (by kernel_rfl)) (by kernel_rfl) (by kernel_rfl) (by kernel_rfl)
    (by rw [MakeChecks.laidMetH_plain _ _ _ (by kernel_rfl)]; exact laidMet_laidAll _ (by kernel_rfl) (by kernel_rfl)) ?_
  intro W base args ds gs before hval0 hW hsz0 hL hsh
  have hsz : (DataW.weightsEach Tryz.prog (Tryz.f4.params.toList ++ Rows.viewRunsSpec.plain.varTypes Tryz.prog) (ds ++ gs)).all (· ≤ reachBytes) = true := hsz0
  have hval : ∀ (j : Nat) t v, Tryz.f4.params[j]? = some t → args[j]? = some v → Value.okWide Tryz.prog W .any base t v := hval0
  have hW' := hW
  obtain ⟨p, q, hA0, hV, rfl, _, _⟩ := hW
  have hA : DataW.TrodAll enc Tryz.prog W 0 (fun _ => true) true Tryz.f4.params.toList args.toList ds p := hA0
  rw [Tryz.params4] at hA hval hsz
  obtain ⟨v0, v1, v2, d0, d1, d2, p0, p1, p2, rfl, rfl, rfl, h0, h1, h2⟩ := trodAll_three hA
  obtain ⟨rfl, rfl⟩ := trodVars_none hV
  obtain ⟨n1, rfl, rfl, rfl, w1⟩ := open_int Tryz.underlying3 (hval 1 3 v1 rfl rfl) h1
  obtain ⟨fuel0, hf0⟩ := h0
  have hc0 : ∃ A n cap, v0 = .slice A n cap := okWide_slice Tryz.underlying22 (hval 0 22 v0 rfl rfl)
  obtain ⟨A0, n0, cap0, rfl⟩ := hc0
  obtain ⟨as0, hr0, ha0⟩ := wW hf0
  obtain ⟨fuel2, hf2⟩ := h2
  have hc2 : ∃ A n cap, v2 = .slice A n cap := okWide_slice Tryz.underlying23 (hval 2 23 v2 rfl rfl)
  obtain ⟨A2, n2, cap2, rfl⟩ := hc2
  obtain ⟨as2, hr2, ha2⟩ := rF hf2
  rw [MakeChecks.laidMetH_plain _ _ _ (by kernel_rfl)] at hL
  have ht : Vm W := UJ hL (by simp [Rows.viewRunsRow])
  clear hA0 hval0 hsz0
  refine (lR W ht _ as0 n1 _ as2 hr0 ha0 hr2 ha2).mono fun e W' ⟨he, hb⟩ => ⟨_, he, ?_⟩
  exact qW Try.laidOut (by kernel_rfl) rfl rfl Tryz.underlying4 hW' rfl hb
theorem viewRuns_named : Tryz.prog.funcNamed Rows.viewRunsRow.func = some 4 := by kernel_rfl
theorem viewRuns_named2 : Tryz.prog.funcNamed "pillarbox/pillarboxlaw24.ViewRuns" = some 4 := viewRuns_named
theorem viewRuns_j0 : Jn.j0 Tryz.prog 4 Tryz.f4 Rows.viewRunsSpec Rows.viewRunsRow = true := by kernel_rfl
theorem viewRuns_j1 : Jn.j1 Tryz.prog 4 Tryz.f4 Rows.viewRunsSpec Rows.viewRunsRow = true := by kernel_rfl
theorem viewRuns_j2 : Jn.j2 Tryz.prog 4 Tryz.f4 Rows.viewRunsSpec Rows.viewRunsRow = true := by kernel_rfl
theorem viewRuns_j3 : Jn.j3 Tryz.prog 4 Tryz.f4 Rows.viewRunsSpec Rows.viewRunsRow = true := by kernel_rfl
theorem viewRuns_j4 : Jn.j4 Tryz.prog 4 Tryz.f4 Rows.viewRunsSpec Rows.viewRunsRow = true := by kernel_rfl
theorem viewRuns_j5 : Jn.j5 Tryz.prog 4 Tryz.f4 Rows.viewRunsSpec Rows.viewRunsRow = true := by kernel_rfl
theorem viewRuns_j6 : Jn.j6 Tryz.prog 4 Tryz.f4 Rows.viewRunsSpec Rows.viewRunsRow = true := by kernel_rfl
theorem viewRuns_j7 : Jn.j7 Tryz.prog 4 Tryz.f4 Rows.viewRunsSpec Rows.viewRunsRow = true := by kernel_rfl
theorem viewRuns_j8 : Jn.j8 Tryz.prog 4 Tryz.f4 Rows.viewRunsSpec Rows.viewRunsRow = true := by kernel_rfl
theorem viewRuns_j9 : Jn.j9 Tryz.prog 4 Tryz.f4 Rows.viewRunsSpec Rows.viewRunsRow = true := by kernel_rfl
theorem viewRuns_j10 : Jn.j10 Tryz.prog 4 Tryz.f4 Rows.viewRunsSpec Rows.viewRunsRow = true := by kernel_rfl
theorem viewRuns_j11 : Jn.j11 Tryz.prog 4 Tryz.f4 Rows.viewRunsSpec Rows.viewRunsRow = true := by kernel_rfl
theorem viewRuns_j12 : Jn.j12 Tryz.prog 4 Tryz.f4 Rows.viewRunsSpec Rows.viewRunsRow = true := by kernel_rfl
theorem viewRuns_j13 : Jn.j13 Tryz.prog 4 Tryz.f4 Rows.viewRunsSpec Rows.viewRunsRow = true := by kernel_rfl
theorem viewRuns_j14 : Jn.j14 Tryz.prog 4 Tryz.f4 Rows.viewRunsSpec Rows.viewRunsRow = true := by kernel_rfl
theorem viewRuns_j15 : Jn.j15 Tryz.prog 4 Tryz.f4 Rows.viewRunsSpec Rows.viewRunsRow = true := by kernel_rfl
theorem viewRuns_j16 : Jn.j16 Tryz.prog 4 Tryz.f4 Rows.viewRunsSpec Rows.viewRunsRow = true := by kernel_rfl
theorem viewRuns_j17 : Jn.j17 Tryz.prog 4 Tryz.f4 Rows.viewRunsSpec Rows.viewRunsRow = true := by kernel_rfl
theorem viewRuns_j18 : Jn.j18 Tryz.prog 4 Tryz.f4 Rows.viewRunsSpec Rows.viewRunsRow = true := by kernel_rfl
theorem viewRuns_j19 : Jn.j19 Tryz.prog 4 Tryz.f4 Rows.viewRunsSpec Rows.viewRunsRow = true := by kernel_rfl
theorem viewRuns_j20 : Jn.j20 Tryz.prog 4 Tryz.f4 Rows.viewRunsSpec Rows.viewRunsRow = true := by kernel_rfl
theorem viewRuns_j21 : Jn.j21 Tryz.prog 4 Tryz.f4 Rows.viewRunsSpec Rows.viewRunsRow = true := by kernel_rfl
theorem viewRuns_j22 : Jn.j22 Tryz.prog 4 Tryz.f4 Rows.viewRunsSpec Rows.viewRunsRow = true := by kernel_rfl
theorem viewRuns_j23 : Jn.j23 Tryz.prog 4 Tryz.f4 Rows.viewRunsSpec Rows.viewRunsRow = true := by kernel_rfl
theorem viewRuns_j24 : Jn.j24 Tryz.prog 4 Tryz.f4 Rows.viewRunsSpec Rows.viewRunsRow = true := by kernel_rfl
theorem viewRuns_j25 : Jn.j25 Tryz.prog 4 Tryz.f4 Rows.viewRunsSpec Rows.viewRunsRow = true := by kernel_rfl
theorem viewRuns_j26 : Jn.j26 Tryz.prog 4 Tryz.f4 Rows.viewRunsSpec Rows.viewRunsRow = true := by kernel_rfl
theorem viewRuns_j27 : Jn.j27 Tryz.prog 4 Tryz.f4 Rows.viewRunsSpec Rows.viewRunsRow = true := by kernel_rfl
theorem viewRuns_j28 : Jn.j28 Tryz.prog 4 Tryz.f4 Rows.viewRunsSpec Rows.viewRunsRow = true := by kernel_rfl
theorem viewRuns_j29 : Jn.j29 Tryz.prog 4 Tryz.f4 Rows.viewRunsSpec Rows.viewRunsRow = true := by kernel_rfl
theorem viewRuns_j30 : Jn.j30 Tryz.prog 4 Tryz.f4 Rows.viewRunsSpec Rows.viewRunsRow = true := by kernel_rfl
theorem viewRuns_j31 : Jn.j31 Tryz.prog 4 Tryz.f4 Rows.viewRunsSpec Rows.viewRunsRow = true := by kernel_rfl
theorem viewRuns_facts : joinedFacts Tryz.prog 4 Tryz.f4 Rows.viewRunsSpec Rows.viewRunsRow = true := jE viewRuns_j0 viewRuns_j1 viewRuns_j2 viewRuns_j3 viewRuns_j4 viewRuns_j5 viewRuns_j6 viewRuns_j7 viewRuns_j8 viewRuns_j9 viewRuns_j10 viewRuns_j11 viewRuns_j12 viewRuns_j13 viewRuns_j14 viewRuns_j15 viewRuns_j16 viewRuns_j17 viewRuns_j18 viewRuns_j19 viewRuns_j20 viewRuns_j21 viewRuns_j22 viewRuns_j23 viewRuns_j24 viewRuns_j25 viewRuns_j26 viewRuns_j27 viewRuns_j28 viewRuns_j29 viewRuns_j30 viewRuns_j31
theorem viewRuns_inst : Tryz.f4.isInstance Tryz.prog Rows.viewRunsRow.origin Rows.viewRunsRow.targs := of_decide_eq_true (by kernel_rfl)
theorem viewRuns_wrap : Tryz.f4.isWrapper Tryz.prog Rows.viewRunsRow.wrapper Rows.viewRunsRow.mainSum := by unfold Func.isWrapper; rw [if_neg (of_decide_eq_false (by kernel_rfl))]; exact ⟨rfl, rfl⟩
theorem viewRuns_wf : Rows.viewRunsRow.wfByText (OpenSpec.ofChange Rows.viewRunsSpec) = true := by kernel_rfl
theorem viewRuns_main : Tryz.prog.mainIs = some (Rows.viewRunsCard.stood.harness.1, Rows.viewRunsCard.stood.harness.2.toList) := by kernel_rfl
theorem viewRuns_looks : false = Tryz.prog.looks [] := by kernel_rfl
theorem viewRuns_stand : ([22, 3, 23].all fun u => !Tryz.prog.wantsStandIn u) = true := by kernel_rfl
theorem viewRuns_goes : false = Rows.viewRunsRow.goesBy Tryz.prog := by kernel_rfl
theorem viewRuns_said : Rows.ViewRunsSaid :=
  OpenClaim.holds_of_wide 4 Tryz.f4 rfl rfl rfl rfl rfl rfl rfl ⟨rfl, rfl, rfl, rfl, rfl⟩ rfl rfl rfl rfl rfl viewRuns_named Tryz.func4 viewRuns_facts
    viewRuns_inst viewRuns_wrap
    (fun os started H enc _ => viewRuns_lifted os started H enc)
theorem viewRuns_holds : Rows.ViewRunsCardSaid :=
  Claim7.holds_tied_plain_at .later [] [.data, .data, .data, .data, .pinned] true _ false viewRuns_said (fun _ h => by cases h) viewRuns_wf (fun _ h => by cases h) viewRuns_row_tie rfl ⟨rfl, rfl⟩ viewRuns_main rfl
    (fun f fn hf hfn => by
      obtain rfl : f = 4 := Option.some.inj (viewRuns_named2.symm.trans hf) |>.symm
      obtain rfl : fn = Tryz.f4 := (Option.some.inj (Tryz.func4.symm.trans hfn)).symm
      exact ⟨viewRuns_looks, fun j t ht => by
        rw [Tryz.params4] at ht
        have hm : t ∈ [22, 3, 23] := by simpa using Array.mem_of_getElem? ht
        exact (show Tryz.prog.wantsStandIn t = false by simpa using List.all_eq_true.1 viewRuns_stand t hm)⟩)
    viewRuns_goes
#print axioms viewRuns_holds
end Go.Proofs.YtnofkliaofgiaaaGreatDoor
