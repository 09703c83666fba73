/-
  A new view has each email of the mailbox, in the order of its numbers: pillarboxlaw24.ViewNew returns true for every input, and turns nothing. The card: the listed tables as the program's text lays them.
-/
import Derived.Test.YtgkfknbhkonfdaaGreatDoorViewNewWM
import Derived.Test.YtgkfknbhkonfdaaGreatDoorBoolsInM
import Derived.Test.YtgkfknbhkonfdaaGreatDoorTensVM
import Derived.Test.YtgkfknbhkonfdaaGreatDoorLawSM
import Derived.Test.YtgkfknbhkonfdaaGreatDoorJoinM
namespace Go.Proofs.YtgkfknbhkonfdaaGreatDoor
open Go.RowKit Go.ChangeShapes Go.WideShapes Go.ChangeAt
open Go.ChangeMaps (open_string)

set_option maxRecDepth 100000 in
theorem viewNew_lifted (os : Os) (started : os.Started) (H : Type) (enc : TypeId × Value → H) :
    ReturnsInHanded {} Tryz.checked os 6 .any (fun w args => (Rows.viewNewSpec.pre enc Tryz.prog Tryz.f6 [] false w args ∧ laidMetH Tryz.prog Rows.viewNewRow.laid w) ∧ sizedMet enc Tryz.prog Tryz.f6 (OpenSpec.ofChange Rows.viewNewSpec) false w args)
      (Rows.viewNewSpec.post enc Tryz.prog Tryz.f6 false true false false) := by
  refine lifted_listed (C := Tryz.checked) (X := fun w => laidMetH Tryz.prog Rows.viewNewRow.laid w) (v0 := #[.int .u8 0, .slice none 0 0]) (fun _ _ hh h => h.of_heap hh) Try.own started (by kernel_rfl) Tryz.func6
    (World.laidAll Tryz.prog os Rows.viewNewRow.laid) 8 (World.laidAll_os _ _ _) (World.shaped_of_ZipB (by kernel_rfl) (by kernel_rfl)) (by kernel_rfl) (by kernel_rfl) (by kernel_rfl)
    (by rw [MakeChecks.laidMetH_plain _ _ _ (by kernel_rfl)]; exact laidMet_laidAll _ (by kernel_rfl) (by kernel_rfl)) ?_
  intro W base args ds gs before hval0 hW hsz0 hL hsh
  have hsz : (DataW.weightsEach Tryz.prog (Tryz.f6.params.toList ++ Rows.viewNewSpec.plain.varTypes Tryz.prog) (ds ++ gs)).all (· ≤ reachBytes) = true := hsz0
  have hval : ∀ (j : Nat) t v, Tryz.f6.params[j]? = some t → args[j]? = some v → Value.okWide Tryz.prog W .any base t v := hval0
  have hW' := hW
  obtain ⟨p, q, hA0, hV, rfl, _, _⟩ := hW
  have hA : DataW.TrodAll enc Tryz.prog W 0 (fun _ => true) true Tryz.f6.params.toList args.toList ds p := hA0
  rw [Tryz.params6] at hA hval hsz
  obtain ⟨v0, v1, d0, d1, p0, p1, rfl, rfl, rfl, h0, h1⟩ := trodAll_two hA
  obtain ⟨rfl, rfl⟩ := trodVars_none hV
  obtain ⟨n0, rfl, rfl, rfl, w0⟩ := open_int Tryz.underlying5 (hval 0 5 v0 rfl rfl) h0
  obtain ⟨k0, rfl, l0⟩ := wf_u8' w0
  obtain ⟨fuel1, hf1⟩ := h1
  have hc1 : ∃ A n cap, v1 = .slice A n cap := okWide_slice Tryz.underlying48 (hval 1 48 v1 rfl rfl)
  obtain ⟨A1, n1, cap1, rfl⟩ := hc1
  obtain ⟨gs, hr1⟩ := bools_in Tryz.underlying48 Tryz.underlying4 (by kernel_rfl) hf1
  rw [MakeChecks.laidMetH_plain _ _ _ (by kernel_rfl)] at hL
  have ht : TensV W := tensV_of_laid hL (by simp [Rows.viewNewRow])
  clear hA0 hval0 hsz0
  refine (viewNew_any k0 l0 _ gs W hr1 ht).mono fun e W' ⟨he, hb⟩ => ⟨_, he, ?_⟩
  exact law_post Try.laidOut (by kernel_rfl) rfl rfl Tryz.underlying4 hW' rfl hb

theorem viewNew_named : Tryz.prog.funcNamed Rows.viewNewRow.func = some 6 := by kernel_rfl
theorem viewNew_named2 : Tryz.prog.funcNamed "pillarbox/pillarboxlaw24.ViewNew" = some 6 := viewNew_named
theorem viewNew_j0 : Jn.j0 Tryz.prog 6 Tryz.f6 Rows.viewNewSpec Rows.viewNewRow = true := by kernel_rfl
theorem viewNew_j1 : Jn.j1 Tryz.prog 6 Tryz.f6 Rows.viewNewSpec Rows.viewNewRow = true := by kernel_rfl
theorem viewNew_j2 : Jn.j2 Tryz.prog 6 Tryz.f6 Rows.viewNewSpec Rows.viewNewRow = true := by kernel_rfl
theorem viewNew_j3 : Jn.j3 Tryz.prog 6 Tryz.f6 Rows.viewNewSpec Rows.viewNewRow = true := by kernel_rfl
theorem viewNew_j4 : Jn.j4 Tryz.prog 6 Tryz.f6 Rows.viewNewSpec Rows.viewNewRow = true := by kernel_rfl
theorem viewNew_j5 : Jn.j5 Tryz.prog 6 Tryz.f6 Rows.viewNewSpec Rows.viewNewRow = true := by kernel_rfl
theorem viewNew_j6 : Jn.j6 Tryz.prog 6 Tryz.f6 Rows.viewNewSpec Rows.viewNewRow = true := by kernel_rfl
theorem viewNew_j7 : Jn.j7 Tryz.prog 6 Tryz.f6 Rows.viewNewSpec Rows.viewNewRow = true := by kernel_rfl
theorem viewNew_j8 : Jn.j8 Tryz.prog 6 Tryz.f6 Rows.viewNewSpec Rows.viewNewRow = true := by kernel_rfl
theorem viewNew_j9 : Jn.j9 Tryz.prog 6 Tryz.f6 Rows.viewNewSpec Rows.viewNewRow = true := by kernel_rfl
theorem viewNew_j10 : Jn.j10 Tryz.prog 6 Tryz.f6 Rows.viewNewSpec Rows.viewNewRow = true := by kernel_rfl
theorem viewNew_j11 : Jn.j11 Tryz.prog 6 Tryz.f6 Rows.viewNewSpec Rows.viewNewRow = true := by kernel_rfl
theorem viewNew_j12 : Jn.j12 Tryz.prog 6 Tryz.f6 Rows.viewNewSpec Rows.viewNewRow = true := by kernel_rfl
theorem viewNew_j13 : Jn.j13 Tryz.prog 6 Tryz.f6 Rows.viewNewSpec Rows.viewNewRow = true := by kernel_rfl
theorem viewNew_j14 : Jn.j14 Tryz.prog 6 Tryz.f6 Rows.viewNewSpec Rows.viewNewRow = true := by kernel_rfl
theorem viewNew_j15 : Jn.j15 Tryz.prog 6 Tryz.f6 Rows.viewNewSpec Rows.viewNewRow = true := by kernel_rfl
theorem viewNew_j16 : Jn.j16 Tryz.prog 6 Tryz.f6 Rows.viewNewSpec Rows.viewNewRow = true := by kernel_rfl
theorem viewNew_j17 : Jn.j17 Tryz.prog 6 Tryz.f6 Rows.viewNewSpec Rows.viewNewRow = true := by kernel_rfl
theorem viewNew_j18 : Jn.j18 Tryz.prog 6 Tryz.f6 Rows.viewNewSpec Rows.viewNewRow = true := by kernel_rfl
theorem viewNew_j19 : Jn.j19 Tryz.prog 6 Tryz.f6 Rows.viewNewSpec Rows.viewNewRow = true := by kernel_rfl
theorem viewNew_j20 : Jn.j20 Tryz.prog 6 Tryz.f6 Rows.viewNewSpec Rows.viewNewRow = true := by kernel_rfl
theorem viewNew_j21 : Jn.j21 Tryz.prog 6 Tryz.f6 Rows.viewNewSpec Rows.viewNewRow = true := by kernel_rfl
theorem viewNew_j22 : Jn.j22 Tryz.prog 6 Tryz.f6 Rows.viewNewSpec Rows.viewNewRow = true := by kernel_rfl
theorem viewNew_j23 : Jn.j23 Tryz.prog 6 Tryz.f6 Rows.viewNewSpec Rows.viewNewRow = true := by kernel_rfl
theorem viewNew_j24 : Jn.j24 Tryz.prog 6 Tryz.f6 Rows.viewNewSpec Rows.viewNewRow = true := by kernel_rfl
theorem viewNew_j25 : Jn.j25 Tryz.prog 6 Tryz.f6 Rows.viewNewSpec Rows.viewNewRow = true := by kernel_rfl
theorem viewNew_j26 : Jn.j26 Tryz.prog 6 Tryz.f6 Rows.viewNewSpec Rows.viewNewRow = true := by kernel_rfl
theorem viewNew_j27 : Jn.j27 Tryz.prog 6 Tryz.f6 Rows.viewNewSpec Rows.viewNewRow = true := by kernel_rfl
theorem viewNew_j28 : Jn.j28 Tryz.prog 6 Tryz.f6 Rows.viewNewSpec Rows.viewNewRow = true := by kernel_rfl
theorem viewNew_j29 : Jn.j29 Tryz.prog 6 Tryz.f6 Rows.viewNewSpec Rows.viewNewRow = true := by kernel_rfl
theorem viewNew_j30 : Jn.j30 Tryz.prog 6 Tryz.f6 Rows.viewNewSpec Rows.viewNewRow = true := by kernel_rfl
theorem viewNew_j31 : Jn.j31 Tryz.prog 6 Tryz.f6 Rows.viewNewSpec Rows.viewNewRow = true := by kernel_rfl
theorem viewNew_facts : joinedFacts Tryz.prog 6 Tryz.f6 Rows.viewNewSpec Rows.viewNewRow = true := joined_of viewNew_j0 viewNew_j1 viewNew_j2 viewNew_j3 viewNew_j4 viewNew_j5 viewNew_j6 viewNew_j7 viewNew_j8 viewNew_j9 viewNew_j10 viewNew_j11 viewNew_j12 viewNew_j13 viewNew_j14 viewNew_j15 viewNew_j16 viewNew_j17 viewNew_j18 viewNew_j19 viewNew_j20 viewNew_j21 viewNew_j22 viewNew_j23 viewNew_j24 viewNew_j25 viewNew_j26 viewNew_j27 viewNew_j28 viewNew_j29 viewNew_j30 viewNew_j31
theorem viewNew_inst : Tryz.f6.isInstance Tryz.prog Rows.viewNewRow.origin Rows.viewNewRow.targs := of_decide_eq_true (by kernel_rfl)
theorem viewNew_wrap : Tryz.f6.isWrapper Tryz.prog Rows.viewNewRow.wrapper Rows.viewNewRow.mainSum := by unfold Func.isWrapper; rw [if_neg (of_decide_eq_false (by kernel_rfl))]; exact ⟨rfl, rfl⟩
theorem viewNew_wf : Rows.viewNewRow.wfByText (OpenSpec.ofChange Rows.viewNewSpec) = true := by kernel_rfl
theorem viewNew_main : Tryz.prog.mainIs = some (Rows.viewNewCard.stood.harness.1, Rows.viewNewCard.stood.harness.2.toList) := by kernel_rfl
theorem viewNew_looks : false = Tryz.prog.looks [] := by kernel_rfl
theorem viewNew_stand : ([5, 48].all fun u => !Tryz.prog.wantsStandIn u) = true := by kernel_rfl
theorem viewNew_goes : false = Rows.viewNewRow.goesBy Tryz.prog := by kernel_rfl

theorem viewNew_said : Rows.ViewNewSaid :=
  OpenClaim.holds_of_wide 6 Tryz.f6 rfl rfl rfl rfl rfl rfl rfl ⟨rfl, rfl, rfl, rfl, rfl⟩ rfl rfl rfl rfl rfl viewNew_named Tryz.func6 viewNew_facts
    viewNew_inst viewNew_wrap
    (fun os started H enc _ => viewNew_lifted os started H enc)

theorem viewNew_holds : Rows.ViewNewCardSaid :=
  Claim7.holds_tied_plain_at .later [] [.data, .data, .data, .data, .pinned] true _ false viewNew_said (fun _ h => by cases h) viewNew_wf (fun _ h => by cases h) viewNew_row_tie rfl ⟨rfl, rfl⟩ viewNew_main rfl
    (fun f fn hf hfn => by
      obtain rfl : f = 6 := Option.some.inj (viewNew_named2.symm.trans hf) |>.symm
      obtain rfl : fn = Tryz.f6 := (Option.some.inj (Tryz.func6.symm.trans hfn)).symm
      exact ⟨viewNew_looks, fun j t ht => by
        rw [Tryz.params6] at ht
        have hm : t ∈ [5, 48] := by simpa using Array.mem_of_getElem? ht
        exact (show Tryz.prog.wantsStandIn t = false by simpa using List.all_eq_true.1 viewNew_stand t hm)⟩)
    viewNew_goes

#print axioms viewNew_holds

end Go.Proofs.YtgkfknbhkonfdaaGreatDoor
