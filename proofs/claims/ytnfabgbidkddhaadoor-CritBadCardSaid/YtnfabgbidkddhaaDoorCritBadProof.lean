/-
  Words that are no keys, or lack what they want, are refused; so are too many: pillarboxlaw23.CritBad returns true for every input, and turns nothing. The card: the listed tables as the program's text lays them.
-/
import Derived.Test.YtnfabgbidkddhaaDoorCritBad
import Derived.Test.YtnfabgbidkddhaaDoorLawC
import Derived.Test.YtnfabgbidkddhaaDoorJoinC
namespace Go.Proofs.YtnfabgbidkddhaaDoor
open Go.RowKit Go.ChangeShapes Go.WideShapes Go.ChangeAt
open Go.ChangeMaps (open_string)

set_option maxRecDepth 100000 in
theorem critBad_lifted (os : Os) (started : os.Started) (H : Type) (enc : TypeId × Value → H) :
    ReturnsInHanded {} Tryd.checked os 3 .any (fun w args => (Rows.critBadSpec.pre enc Tryd.prog Tryd.f3 [] false w args ∧ laidMetH Tryd.prog Rows.critBadRow.laid w) ∧ sizedMet enc Tryd.prog Tryd.f3 (OpenSpec.ofChange Rows.critBadSpec) false w args)
      (Rows.critBadSpec.post enc Tryd.prog Tryd.f3 false true false false) := by
  refine lifted_listed (C := Tryd.checked) (X := fun w => laidMetH Tryd.prog Rows.critBadRow.laid w) (v0 := #[.int .u8 0, .int .u8 0]) (fun _ _ hh h => h.of_heap hh) Try.own started (by kernel_rfl) Tryd.func3
    (World.laidAll Tryd.prog os Rows.critBadRow.laid) 8 (World.laidAll_os _ _ _) (World.shaped_of_ZipB (by kernel_rfl) (by kernel_rfl)) (by kernel_rfl) (by kernel_rfl) (by kernel_rfl)
    (by rw [MakeChecks.laidMetH_plain _ _ _ (by kernel_rfl)]; exact laidMet_laidAll _ (by kernel_rfl) (by kernel_rfl)) ?_
  intro W base args ds gs before hval0 hW hsz0 hL hsh
  have hsz : (DataW.weightsEach Tryd.prog (Tryd.f3.params.toList ++ Rows.critBadSpec.plain.varTypes Tryd.prog) (ds ++ gs)).all (· ≤ reachBytes) = true := hsz0
  have hval : ∀ (j : Nat) t v, Tryd.f3.params[j]? = some t → args[j]? = some v → Value.okWide Tryd.prog W .any base t v := hval0
  have hm := mx_of_shaped hsh
  have hW' := hW
  obtain ⟨p, q, hA0, hV, rfl, _, _⟩ := hW
  have hA : DataW.TrodAll enc Tryd.prog W 0 (fun _ => true) true Tryd.f3.params.toList args.toList ds p := hA0
  rw [Tryd.params3] at hA hval hsz
  obtain ⟨v0, v1, d0, d1, p0, p1, rfl, rfl, rfl, h0, h1⟩ := trodAll_two hA
  obtain ⟨rfl, rfl⟩ := trodVars_none hV
  obtain ⟨n0, rfl, rfl, rfl, w0⟩ := open_int Tryd.underlying5 (hval 0 5 v0 rfl rfl) h0
  obtain ⟨k0, rfl, l0⟩ := wf_u8' w0
  obtain ⟨n1, rfl, rfl, rfl, w1⟩ := open_int Tryd.underlying5 (hval 1 5 v1 rfl rfl) h1
  obtain ⟨k1, rfl, l1⟩ := wf_u8' w1
  clear hA0 hval0 hsz0
  refine (critBad_any k0 k1 l0 l1 W hm).mono fun e W' ⟨he, hb⟩ => ⟨_, he, ?_⟩
  exact law_post Try.laidOut (by kernel_rfl) rfl rfl Tryd.underlying4 hW' rfl hb

theorem critBad_named : Tryd.prog.funcNamed Rows.critBadRow.func = some 3 := by kernel_rfl
theorem critBad_named2 : Tryd.prog.funcNamed "pillarbox/pillarboxlaw23.CritBad" = some 3 := critBad_named
theorem critBad_j0 : Jn.j0 Tryd.prog 3 Tryd.f3 Rows.critBadSpec Rows.critBadRow = true := by kernel_rfl
theorem critBad_j1 : Jn.j1 Tryd.prog 3 Tryd.f3 Rows.critBadSpec Rows.critBadRow = true := by kernel_rfl
theorem critBad_j2 : Jn.j2 Tryd.prog 3 Tryd.f3 Rows.critBadSpec Rows.critBadRow = true := by kernel_rfl
theorem critBad_j3 : Jn.j3 Tryd.prog 3 Tryd.f3 Rows.critBadSpec Rows.critBadRow = true := by kernel_rfl
theorem critBad_j4 : Jn.j4 Tryd.prog 3 Tryd.f3 Rows.critBadSpec Rows.critBadRow = true := by kernel_rfl
theorem critBad_j5 : Jn.j5 Tryd.prog 3 Tryd.f3 Rows.critBadSpec Rows.critBadRow = true := by kernel_rfl
theorem critBad_j6 : Jn.j6 Tryd.prog 3 Tryd.f3 Rows.critBadSpec Rows.critBadRow = true := by kernel_rfl
theorem critBad_j7 : Jn.j7 Tryd.prog 3 Tryd.f3 Rows.critBadSpec Rows.critBadRow = true := by kernel_rfl
theorem critBad_j8 : Jn.j8 Tryd.prog 3 Tryd.f3 Rows.critBadSpec Rows.critBadRow = true := by kernel_rfl
theorem critBad_j9 : Jn.j9 Tryd.prog 3 Tryd.f3 Rows.critBadSpec Rows.critBadRow = true := by kernel_rfl
theorem critBad_j10 : Jn.j10 Tryd.prog 3 Tryd.f3 Rows.critBadSpec Rows.critBadRow = true := by kernel_rfl
theorem critBad_j11 : Jn.j11 Tryd.prog 3 Tryd.f3 Rows.critBadSpec Rows.critBadRow = true := by kernel_rfl
theorem critBad_j12 : Jn.j12 Tryd.prog 3 Tryd.f3 Rows.critBadSpec Rows.critBadRow = true := by kernel_rfl
theorem critBad_j13 : Jn.j13 Tryd.prog 3 Tryd.f3 Rows.critBadSpec Rows.critBadRow = true := by kernel_rfl
theorem critBad_j14 : Jn.j14 Tryd.prog 3 Tryd.f3 Rows.critBadSpec Rows.critBadRow = true := by kernel_rfl
theorem critBad_j15 : Jn.j15 Tryd.prog 3 Tryd.f3 Rows.critBadSpec Rows.critBadRow = true := by kernel_rfl
theorem critBad_j16 : Jn.j16 Tryd.prog 3 Tryd.f3 Rows.critBadSpec Rows.critBadRow = true := by kernel_rfl
theorem critBad_j17 : Jn.j17 Tryd.prog 3 Tryd.f3 Rows.critBadSpec Rows.critBadRow = true := by kernel_rfl
theorem critBad_j18 : Jn.j18 Tryd.prog 3 Tryd.f3 Rows.critBadSpec Rows.critBadRow = true := by kernel_rfl
theorem critBad_j19 : Jn.j19 Tryd.prog 3 Tryd.f3 Rows.critBadSpec Rows.critBadRow = true := by kernel_rfl
theorem critBad_j20 : Jn.j20 Tryd.prog 3 Tryd.f3 Rows.critBadSpec Rows.critBadRow = true := by kernel_rfl
theorem critBad_j21 : Jn.j21 Tryd.prog 3 Tryd.f3 Rows.critBadSpec Rows.critBadRow = true := by kernel_rfl
theorem critBad_j22 : Jn.j22 Tryd.prog 3 Tryd.f3 Rows.critBadSpec Rows.critBadRow = true := by kernel_rfl
theorem critBad_j23 : Jn.j23 Tryd.prog 3 Tryd.f3 Rows.critBadSpec Rows.critBadRow = true := by kernel_rfl
theorem critBad_j24 : Jn.j24 Tryd.prog 3 Tryd.f3 Rows.critBadSpec Rows.critBadRow = true := by kernel_rfl
theorem critBad_j25 : Jn.j25 Tryd.prog 3 Tryd.f3 Rows.critBadSpec Rows.critBadRow = true := by kernel_rfl
theorem critBad_j26 : Jn.j26 Tryd.prog 3 Tryd.f3 Rows.critBadSpec Rows.critBadRow = true := by kernel_rfl
theorem critBad_j27 : Jn.j27 Tryd.prog 3 Tryd.f3 Rows.critBadSpec Rows.critBadRow = true := by kernel_rfl
theorem critBad_j28 : Jn.j28 Tryd.prog 3 Tryd.f3 Rows.critBadSpec Rows.critBadRow = true := by kernel_rfl
theorem critBad_j29 : Jn.j29 Tryd.prog 3 Tryd.f3 Rows.critBadSpec Rows.critBadRow = true := by kernel_rfl
theorem critBad_j30 : Jn.j30 Tryd.prog 3 Tryd.f3 Rows.critBadSpec Rows.critBadRow = true := by kernel_rfl
theorem critBad_j31 : Jn.j31 Tryd.prog 3 Tryd.f3 Rows.critBadSpec Rows.critBadRow = true := by kernel_rfl
theorem critBad_facts : joinedFacts Tryd.prog 3 Tryd.f3 Rows.critBadSpec Rows.critBadRow = true := joined_of critBad_j0 critBad_j1 critBad_j2 critBad_j3 critBad_j4 critBad_j5 critBad_j6 critBad_j7 critBad_j8 critBad_j9 critBad_j10 critBad_j11 critBad_j12 critBad_j13 critBad_j14 critBad_j15 critBad_j16 critBad_j17 critBad_j18 critBad_j19 critBad_j20 critBad_j21 critBad_j22 critBad_j23 critBad_j24 critBad_j25 critBad_j26 critBad_j27 critBad_j28 critBad_j29 critBad_j30 critBad_j31
theorem critBad_inst : Tryd.f3.isInstance Tryd.prog Rows.critBadRow.origin Rows.critBadRow.targs := of_decide_eq_true (by kernel_rfl)
theorem critBad_wrap : Tryd.f3.isWrapper Tryd.prog Rows.critBadRow.wrapper Rows.critBadRow.mainSum := by unfold Func.isWrapper; rw [if_neg (of_decide_eq_false (by kernel_rfl))]; exact ⟨rfl, rfl⟩
theorem critBad_wf : Rows.critBadRow.wfByText (OpenSpec.ofChange Rows.critBadSpec) = true := by kernel_rfl
theorem critBad_main : Tryd.prog.mainIs = some (Rows.critBadCard.stood.harness.1, Rows.critBadCard.stood.harness.2.toList) := by kernel_rfl
theorem critBad_looks : false = Tryd.prog.looks [] := by kernel_rfl
theorem critBad_stand : ([5, 5].all fun u => !Tryd.prog.wantsStandIn u) = true := by kernel_rfl
theorem critBad_goes : false = Rows.critBadRow.goesBy Tryd.prog := by kernel_rfl

theorem critBad_said : Rows.CritBadSaid :=
  OpenClaim.holds_of_wide 3 Tryd.f3 rfl rfl rfl rfl rfl rfl rfl ⟨rfl, rfl, rfl, rfl, rfl⟩ rfl rfl rfl rfl rfl critBad_named Tryd.func3 critBad_facts
    critBad_inst critBad_wrap
    (fun os started H enc _ => critBad_lifted os started H enc)

theorem critBad_holds : Rows.CritBadCardSaid :=
  Claim7.holds_tied_plain_at .later [] [.data, .pinned] true _ false critBad_said (fun _ h => by cases h) critBad_wf (fun _ h => by cases h) critBad_row_tie rfl ⟨rfl, rfl⟩ critBad_main rfl
    (fun f fn hf hfn => by
      obtain rfl : f = 3 := Option.some.inj (critBad_named2.symm.trans hf) |>.symm
      obtain rfl : fn = Tryd.f3 := (Option.some.inj (Tryd.func3.symm.trans hfn)).symm
      exact ⟨critBad_looks, fun j t ht => by
        rw [Tryd.params3] at ht
        have hm : t ∈ [5, 5] := by simpa using Array.mem_of_getElem? ht
        exact (show Tryd.prog.wantsStandIn t = false by simpa using List.all_eq_true.1 critBad_stand t hm)⟩)
    critBad_goes

#print axioms critBad_holds

end Go.Proofs.YtnfabgbidkddhaaDoor
