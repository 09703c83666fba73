/-
  Whatever is done, an account answers, and holds, what the document says, at whatever limits: pillarboxlaw18.StoreRuns returns true for every input, and turns nothing. The card: the listed tables as the program's text lays them.
-/
import Derived.Test.YtfhlhdmhgheonaaGreatDoorGRW
import Derived.Test.YtfhlhdmhgheonaaGreatDoorGV
import Derived.Test.YtfhlhdmhgheonaaGreatDoorGLW
namespace Go.Proofs.YtfhlhdmhgheonaaGreatDoor
open Go.RowKit Go.ChangeShapes Go.WideShapes Go.ChangeAt
open Go.ChangeMaps (open_string)
set_option maxRecDepth 100000 in
theorem storeRuns_lifted (os : Os) (started : os.Started) (H : Type) (enc : TypeId × Value → H) :
    ReturnsInHanded {} Tryz.checked os 3 .any (fun w args => (Rows.storeRunsSpec.pre enc Tryz.prog Tryz.f3 [] false w args ∧ laidMetH Tryz.prog Rows.storeRunsRow.laid w) ∧ sizedMet enc Tryz.prog Tryz.f3 (OpenSpec.ofChange Rows.storeRunsSpec) false w args)
      (Rows.storeRunsSpec.post enc Tryz.prog Tryz.f3 false true false false) := by
  refine Y7 (C := Tryz.checked) (X := fun w => laidMetH Tryz.prog Rows.storeRunsRow.laid w) (v0 := #[.int .u8 0, .int .u8 0, .int .u8 0, .int .u8 0, .int .u8 0, .slice none 0 0]) (fun _ _ hh h => h.of_heap hh) Try.own started (by kernel_rfl) Tryz.func3
    (World.laidAll Tryz.prog os Rows.storeRunsRow.laid) 8 (World.laidAll_os _ _ _) (World.shaped_of_ZipB (by kernel_rfl) (by kernel_rfl)) (by kernel_rfl) (by kernel_rfl) (by kernel_rfl)
    (by rw [MakeChecks.laidMetH_plain _ _ _ (by kernel_rfl)]; exact laidMet_laidAll _ (by kernel_rfl) (by kernel_rfl)) ?_
  intro W base args ds gs before hval0 hW hsz0 hL hsh
  have hsz : (DataW.weightsEach Tryz.prog (Tryz.f3.params.toList ++ Rows.storeRunsSpec.plain.varTypes Tryz.prog) (ds ++ gs)).all (· ≤ reachBytes) = true := hsz0
  have hval : ∀ (j : Nat) t v, Tryz.f3.params[j]? = some t → args[j]? = some v → Value.okWide Tryz.prog W .any base t v := hval0
  have hW' := hW
  obtain ⟨p, q, hA0, hV, rfl, _, _⟩ := hW
  have hA : DataW.TrodAll enc Tryz.prog W 0 (fun _ => true) true Tryz.f3.params.toList args.toList ds p := hA0
  rw [Tryz.params3] at hA hval hsz
  obtain ⟨v0, v1, v2, v3, v4, v5, d0, d1, d2, d3, d4, d5, p0, p1, p2, p3, p4, p5, rfl, rfl, rfl, h0, h1, h2, h3, h4, h5⟩ := zaB hA
  obtain ⟨rfl, rfl⟩ := trodVars_none hV
  obtain ⟨n0, rfl, rfl, rfl, w0⟩ := open_int Tryz.underlying5 (hval 0 5 v0 rfl rfl) h0
  obtain ⟨k0, rfl, l0⟩ := JU w0
  obtain ⟨n1, rfl, rfl, rfl, w1⟩ := open_int Tryz.underlying5 (hval 1 5 v1 rfl rfl) h1
  obtain ⟨k1, rfl, l1⟩ := JU w1
  obtain ⟨n2, rfl, rfl, rfl, w2⟩ := open_int Tryz.underlying5 (hval 2 5 v2 rfl rfl) h2
  obtain ⟨k2, rfl, l2⟩ := JU w2
  obtain ⟨n3, rfl, rfl, rfl, w3⟩ := open_int Tryz.underlying5 (hval 3 5 v3 rfl rfl) h3
  obtain ⟨k3, rfl, l3⟩ := JU w3
  obtain ⟨n4, rfl, rfl, rfl, w4⟩ := open_int Tryz.underlying5 (hval 4 5 v4 rfl rfl) h4
  obtain ⟨k4, rfl, l4⟩ := JU w4
  obtain ⟨fuel5, hf5⟩ := h5
  have hc5 : ∃ A n cap, v5 = .slice A n cap := okWide_slice Tryz.underlying22 (hval 5 22 v5 rfl rfl)
  obtain ⟨A5, n5, cap5, rfl⟩ := hc5
  obtain ⟨acts5, hr5, ha5⟩ := zaf hf5
  clear hA0 hval0 hsz0
  refine (UX k0 k1 k2 k3 k4 l0 l1 l2 l3 l4 _ acts5 W hr5 ha5).mono fun e W' ⟨he, hb⟩ => ⟨_, he, ?_⟩
  exact zaT Try.laidOut (by kernel_rfl) rfl rfl Tryz.underlying4 hW' rfl hb
theorem storeRuns_named : Tryz.prog.funcNamed Rows.storeRunsRow.func = some 3 := by kernel_rfl
theorem storeRuns_named2 : Tryz.prog.funcNamed "pillarbox/pillarboxlaw18.StoreRuns" = some 3 := storeRuns_named
theorem storeRuns_j0 : Jn.j0 Tryz.prog 3 Tryz.f3 Rows.storeRunsSpec Rows.storeRunsRow = true := by kernel_rfl
theorem storeRuns_j1 : Jn.j1 Tryz.prog 3 Tryz.f3 Rows.storeRunsSpec Rows.storeRunsRow = true := by kernel_rfl
theorem storeRuns_j2 : Jn.j2 Tryz.prog 3 Tryz.f3 Rows.storeRunsSpec Rows.storeRunsRow = true := by kernel_rfl
theorem storeRuns_j3 : Jn.j3 Tryz.prog 3 Tryz.f3 Rows.storeRunsSpec Rows.storeRunsRow = true := by kernel_rfl
theorem storeRuns_j4 : Jn.j4 Tryz.prog 3 Tryz.f3 Rows.storeRunsSpec Rows.storeRunsRow = true := by kernel_rfl
theorem storeRuns_j5 : Jn.j5 Tryz.prog 3 Tryz.f3 Rows.storeRunsSpec Rows.storeRunsRow = true := by kernel_rfl
theorem storeRuns_j6 : Jn.j6 Tryz.prog 3 Tryz.f3 Rows.storeRunsSpec Rows.storeRunsRow = true := by kernel_rfl
theorem storeRuns_j7 : Jn.j7 Tryz.prog 3 Tryz.f3 Rows.storeRunsSpec Rows.storeRunsRow = true := by kernel_rfl
theorem storeRuns_j8 : Jn.j8 Tryz.prog 3 Tryz.f3 Rows.storeRunsSpec Rows.storeRunsRow = true := by kernel_rfl
theorem storeRuns_j9 : Jn.j9 Tryz.prog 3 Tryz.f3 Rows.storeRunsSpec Rows.storeRunsRow = true := by kernel_rfl
theorem storeRuns_j10 : Jn.j10 Tryz.prog 3 Tryz.f3 Rows.storeRunsSpec Rows.storeRunsRow = true := by kernel_rfl
theorem storeRuns_j11 : Jn.j11 Tryz.prog 3 Tryz.f3 Rows.storeRunsSpec Rows.storeRunsRow = true := by kernel_rfl
theorem storeRuns_j12 : Jn.j12 Tryz.prog 3 Tryz.f3 Rows.storeRunsSpec Rows.storeRunsRow = true := by kernel_rfl
theorem storeRuns_j13 : Jn.j13 Tryz.prog 3 Tryz.f3 Rows.storeRunsSpec Rows.storeRunsRow = true := by kernel_rfl
theorem storeRuns_j14 : Jn.j14 Tryz.prog 3 Tryz.f3 Rows.storeRunsSpec Rows.storeRunsRow = true := by kernel_rfl
theorem storeRuns_j15 : Jn.j15 Tryz.prog 3 Tryz.f3 Rows.storeRunsSpec Rows.storeRunsRow = true := by kernel_rfl
theorem storeRuns_j16 : Jn.j16 Tryz.prog 3 Tryz.f3 Rows.storeRunsSpec Rows.storeRunsRow = true := by kernel_rfl
theorem storeRuns_j17 : Jn.j17 Tryz.prog 3 Tryz.f3 Rows.storeRunsSpec Rows.storeRunsRow = true := by kernel_rfl
theorem storeRuns_j18 : Jn.j18 Tryz.prog 3 Tryz.f3 Rows.storeRunsSpec Rows.storeRunsRow = true := by kernel_rfl
theorem storeRuns_j19 : Jn.j19 Tryz.prog 3 Tryz.f3 Rows.storeRunsSpec Rows.storeRunsRow = true := by kernel_rfl
theorem storeRuns_j20 : Jn.j20 Tryz.prog 3 Tryz.f3 Rows.storeRunsSpec Rows.storeRunsRow = true := by kernel_rfl
theorem storeRuns_j21 : Jn.j21 Tryz.prog 3 Tryz.f3 Rows.storeRunsSpec Rows.storeRunsRow = true := by kernel_rfl
theorem storeRuns_j22 : Jn.j22 Tryz.prog 3 Tryz.f3 Rows.storeRunsSpec Rows.storeRunsRow = true := by kernel_rfl
theorem storeRuns_j23 : Jn.j23 Tryz.prog 3 Tryz.f3 Rows.storeRunsSpec Rows.storeRunsRow = true := by kernel_rfl
theorem storeRuns_j24 : Jn.j24 Tryz.prog 3 Tryz.f3 Rows.storeRunsSpec Rows.storeRunsRow = true := by kernel_rfl
theorem storeRuns_j25 : Jn.j25 Tryz.prog 3 Tryz.f3 Rows.storeRunsSpec Rows.storeRunsRow = true := by kernel_rfl
theorem storeRuns_j26 : Jn.j26 Tryz.prog 3 Tryz.f3 Rows.storeRunsSpec Rows.storeRunsRow = true := by kernel_rfl
theorem storeRuns_j27 : Jn.j27 Tryz.prog 3 Tryz.f3 Rows.storeRunsSpec Rows.storeRunsRow = true := by kernel_rfl
theorem storeRuns_j28 : Jn.j28 Tryz.prog 3 Tryz.f3 Rows.storeRunsSpec Rows.storeRunsRow = true := by kernel_rfl
theorem storeRuns_j29 : Jn.j29 Tryz.prog 3 Tryz.f3 Rows.storeRunsSpec Rows.storeRunsRow = true := by kernel_rfl
theorem storeRuns_j30 : Jn.j30 Tryz.prog 3 Tryz.f3 Rows.storeRunsSpec Rows.storeRunsRow = true := by kernel_rfl
theorem storeRuns_j31 : Jn.j31 Tryz.prog 3 Tryz.f3 Rows.storeRunsSpec Rows.storeRunsRow = true := by kernel_rfl
theorem storeRuns_facts : joinedFacts Tryz.prog 3 Tryz.f3 Rows.storeRunsSpec Rows.storeRunsRow = true := JY storeRuns_j0 storeRuns_j1 storeRuns_j2 storeRuns_j3 storeRuns_j4 storeRuns_j5 storeRuns_j6 storeRuns_j7 storeRuns_j8 storeRuns_j9 storeRuns_j10 storeRuns_j11 storeRuns_j12 storeRuns_j13 storeRuns_j14 storeRuns_j15 storeRuns_j16 storeRuns_j17 storeRuns_j18 storeRuns_j19 storeRuns_j20 storeRuns_j21 storeRuns_j22 storeRuns_j23 storeRuns_j24 storeRuns_j25 storeRuns_j26 storeRuns_j27 storeRuns_j28 storeRuns_j29 storeRuns_j30 storeRuns_j31
theorem storeRuns_inst : Tryz.f3.isInstance Tryz.prog Rows.storeRunsRow.origin Rows.storeRunsRow.targs := of_decide_eq_true (by kernel_rfl)
theorem storeRuns_wrap : Tryz.f3.isWrapper Tryz.prog Rows.storeRunsRow.wrapper Rows.storeRunsRow.mainSum := by unfold Func.isWrapper; rw [if_neg (of_decide_eq_false (by kernel_rfl))]; exact ⟨rfl, rfl⟩
theorem storeRuns_wf : Rows.storeRunsRow.wfByText (OpenSpec.ofChange Rows.storeRunsSpec) = true := by kernel_rfl
theorem storeRuns_main : Tryz.prog.mainIs = some (Rows.storeRunsCard.stood.harness.1, Rows.storeRunsCard.stood.harness.2.toList) := by kernel_rfl
theorem storeRuns_looks : false = Tryz.prog.looks [] := by kernel_rfl
theorem storeRuns_stand : ([5, 5, 5, 5, 5, 22].all fun u => !Tryz.prog.wantsStandIn u) = true := by kernel_rfl
theorem storeRuns_goes : false = Rows.storeRunsRow.goesBy Tryz.prog := by kernel_rfl
theorem storeRuns_said : Rows.StoreRunsSaid :=
  OpenClaim.holds_of_wide 3 Tryz.f3 rfl rfl rfl rfl rfl rfl rfl ⟨rfl, rfl, rfl, rfl, rfl⟩ rfl rfl rfl rfl rfl storeRuns_named Tryz.func3 storeRuns_facts
    storeRuns_inst storeRuns_wrap
    (fun os started H enc _ => storeRuns_lifted os started H enc)
theorem storeRuns_holds : Rows.StoreRunsCardSaid :=
  Claim7.holds_tied_plain_at .later [] [.data, .pinned] true _ false storeRuns_said (fun _ h => by cases h) storeRuns_wf (fun _ h => by cases h) storeRuns_row_tie rfl ⟨rfl, rfl⟩ storeRuns_main rfl
    (fun f fn hf hfn => by
      obtain rfl : f = 3 := Option.some.inj (storeRuns_named2.symm.trans hf) |>.symm
      obtain rfl : fn = Tryz.f3 := (Option.some.inj (Tryz.func3.symm.trans hfn)).symm
      exact ⟨storeRuns_looks, fun j t ht => by
        rw [Tryz.params3] at ht
        have hm : t ∈ [5, 5, 5, 5, 5, 22] := by simpa using Array.mem_of_getElem? ht
        exact (show Tryz.prog.wantsStandIn t = false by simpa using List.all_eq_true.1 storeRuns_stand t hm)⟩)
    storeRuns_goes
#print axioms storeRuns_holds
end Go.Proofs.YtfhlhdmhgheonaaGreatDoor
