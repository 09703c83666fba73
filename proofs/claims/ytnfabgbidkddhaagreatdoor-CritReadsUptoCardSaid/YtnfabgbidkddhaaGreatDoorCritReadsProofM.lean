/-
  The filter of any words, over any numbers that rise, or why there is none, is the document's: pillarboxlaw23.CritReads returns true, and turns nothing, for every input whose bulk (each value counted each time it is met) is at most 1048576. The card: the listed tables as the program's text lays them.
-/
import Derived.Test.YtnfabgbidkddhaaGreatDoorReadsWM
import Derived.Test.YtnfabgbidkddhaaGreatDoorGCW
import Derived.Test.YtnfabgbidkddhaaGreatDoorGCL
namespace Go.Proofs.YtnfabgbidkddhaaGreatDoor
open Go.RowKit Go.ChangeShapes Go.WideShapes Go.ChangeAt
open Go.ChangeMaps (open_string)

set_option maxRecDepth 100000 in
theorem critReads_lifted (os : Os) (started : os.Started) (H : Type) (enc : TypeId × Value → H) :
    ReturnsInHanded {} Tryz.checked os 3 .any (fun w args => ((Rows.OpenSpec.upto Rows.critReadsSpec).pre enc Tryz.prog Tryz.f3 [] false w args ∧ laidMetH Tryz.prog Rows.critReadsUptoRow.laid w) ∧ sizedMet enc Tryz.prog Tryz.f3 (Rows.OpenSpec.upto Rows.critReadsSpec) false w args)
      (Rows.critReadsSpec.post enc Tryz.prog Tryz.f3 false true false false) := by
  refine lifted_listedU (C := Tryz.checked) (k := Rows.uptoSmall) (X := fun w => laidMetH Tryz.prog Rows.critReadsUptoRow.laid w) (v0 := #[.slice none 0 0, .int .i64 0, .slice none 0 0]) (fun _ _ hh h => h.of_heap hh) Try.own started (by kernel_rfl) Tryz.func3
    (World.laidAll Tryz.prog os Rows.critReadsUptoRow.laid) 8 (World.laidAll_os _ _ _) (World.shaped_of_ZipB (by kernel_rfl) (by kernel_rfl)) (by kernel_rfl) (by kernel_rfl) (by kernel_rfl) (by kernel_rfl)
    (by rw [MakeChecks.laidMetH_plain _ _ _ (by kernel_rfl)]; exact laidMet_laidAll _ (by kernel_rfl) (by kernel_rfl)) ?_
  intro W base args ds gs before hval0 hW hkk hL hsh
  have hval : ∀ (j : Nat) t v, Tryz.f3.params[j]? = some t → args[j]? = some v → Value.okWide Tryz.prog W .any base t v := hval0
  have hm := mx_of_shaped hsh
  have hW' := hW
  obtain ⟨p, q, hA0, hV, rfl, _, _⟩ := hW
  have hA : DataW.TrodAll enc Tryz.prog W 0 (fun _ => true) true Tryz.f3.params.toList args.toList ds p := hA0
  rw [Tryz.params3] at hA hval
  obtain ⟨v0, v1, v2, d0, d1, d2, p0, p1, p2, rfl, rfl, rfl, h0, h1, h2⟩ := trodAll_three hA
  obtain ⟨rfl, rfl⟩ := trodVars_none hV
  obtain ⟨n1, rfl, rfl, rfl, w1⟩ := open_int Tryz.underlying3 (hval 1 3 v1 rfl rfl) h1
  obtain ⟨fuel0, hf0⟩ := h0
  have hc0 : ∃ A n cap, v0 = .slice A n cap := okWide_slice Tryz.underlying22 (hval 0 22 v0 rfl rfl)
  obtain ⟨A0, m0, cap0, rfl⟩ := hc0
  obtain ⟨ws, hr0, hz0⟩ := words_in fuel0 _ _ hf0
  obtain ⟨fuel2, hf2⟩ := h2
  have hc2 : ∃ A n cap, v2 = .slice A n cap := okWide_slice Tryz.underlying23 (hval 2 23 v2 rfl rfl)
  obtain ⟨A2, m2, cap2, rfl⟩ := hc2
  obtain ⟨us, hr2⟩ := ints_inW Tryz.underlying23 Tryz.underlying3 (by kernel_rfl) hf2
  have hbulk : szL ws ≤ 1048576 := by
    have hz1 : szL ws ≤ Rows.uptoBulk d0 := hz0
    have h := of_decide_eq_true hkk
    simp only [List.append_nil, Rows.uptoBulkAll] at h
    omega
  clear hA0 hval0
  refine (critReads_any W _ ws n1 _ us hm hr0 hbulk hr2).mono fun e W' ⟨he, hb⟩ => ⟨_, he, ?_⟩
  exact law_post Try.laidOut (by kernel_rfl) rfl rfl Tryz.underlying4 hW' rfl hb

theorem critReads_named : Tryz.prog.funcNamed Rows.critReadsUptoRow.func = some 3 := by kernel_rfl
theorem critReads_named2 : Tryz.prog.funcNamed "pillarbox/pillarboxlaw23.CritReads" = some 3 := critReads_named
theorem critReads_j0 : Jn.j0 Tryz.prog 3 Tryz.f3 (Rows.OpenSpec.upto Rows.critReadsSpec).bare Rows.critReadsUptoRow = true := by kernel_rfl
theorem critReads_j1 : Jn.j1 Tryz.prog 3 Tryz.f3 (Rows.OpenSpec.upto Rows.critReadsSpec).bare Rows.critReadsUptoRow = true := by kernel_rfl
theorem critReads_j2 : Jn.j2 Tryz.prog 3 Tryz.f3 (Rows.OpenSpec.upto Rows.critReadsSpec).bare Rows.critReadsUptoRow = true := by kernel_rfl
theorem critReads_j3 : Jn.j3 Tryz.prog 3 Tryz.f3 (Rows.OpenSpec.upto Rows.critReadsSpec).bare Rows.critReadsUptoRow = true := by kernel_rfl
theorem critReads_j4 : Jn.j4 Tryz.prog 3 Tryz.f3 (Rows.OpenSpec.upto Rows.critReadsSpec).bare Rows.critReadsUptoRow = true := by kernel_rfl
theorem critReads_j5 : Jn.j5 Tryz.prog 3 Tryz.f3 (Rows.OpenSpec.upto Rows.critReadsSpec).bare Rows.critReadsUptoRow = true := by kernel_rfl
theorem critReads_j6 : Jn.j6 Tryz.prog 3 Tryz.f3 (Rows.OpenSpec.upto Rows.critReadsSpec).bare Rows.critReadsUptoRow = true := by kernel_rfl
theorem critReads_j7 : Jn.j7 Tryz.prog 3 Tryz.f3 (Rows.OpenSpec.upto Rows.critReadsSpec).bare Rows.critReadsUptoRow = true := by kernel_rfl
theorem critReads_j8 : Jn.j8 Tryz.prog 3 Tryz.f3 (Rows.OpenSpec.upto Rows.critReadsSpec).bare Rows.critReadsUptoRow = true := by kernel_rfl
theorem critReads_j9 : Jn.j9 Tryz.prog 3 Tryz.f3 (Rows.OpenSpec.upto Rows.critReadsSpec).bare Rows.critReadsUptoRow = true := by kernel_rfl
theorem critReads_j10 : Jn.j10 Tryz.prog 3 Tryz.f3 (Rows.OpenSpec.upto Rows.critReadsSpec).bare Rows.critReadsUptoRow = true := by kernel_rfl
theorem critReads_j11 : Jn.j11 Tryz.prog 3 Tryz.f3 (Rows.OpenSpec.upto Rows.critReadsSpec).bare Rows.critReadsUptoRow = true := by kernel_rfl
theorem critReads_j12 : Jn.j12 Tryz.prog 3 Tryz.f3 (Rows.OpenSpec.upto Rows.critReadsSpec).bare Rows.critReadsUptoRow = true := by kernel_rfl
theorem critReads_j13 : Jn.j13 Tryz.prog 3 Tryz.f3 (Rows.OpenSpec.upto Rows.critReadsSpec).bare Rows.critReadsUptoRow = true := by kernel_rfl
theorem critReads_j14 : Jn.j14 Tryz.prog 3 Tryz.f3 (Rows.OpenSpec.upto Rows.critReadsSpec).bare Rows.critReadsUptoRow = true := by kernel_rfl
theorem critReads_j15 : Jn.j15 Tryz.prog 3 Tryz.f3 (Rows.OpenSpec.upto Rows.critReadsSpec).bare Rows.critReadsUptoRow = true := by kernel_rfl
theorem critReads_j16 : Jn.j16 Tryz.prog 3 Tryz.f3 (Rows.OpenSpec.upto Rows.critReadsSpec).bare Rows.critReadsUptoRow = true := by kernel_rfl
theorem critReads_j17 : Jn.j17 Tryz.prog 3 Tryz.f3 (Rows.OpenSpec.upto Rows.critReadsSpec).bare Rows.critReadsUptoRow = true := by kernel_rfl
theorem critReads_j18 : Jn.j18 Tryz.prog 3 Tryz.f3 (Rows.OpenSpec.upto Rows.critReadsSpec).bare Rows.critReadsUptoRow = true := by kernel_rfl
theorem critReads_j19 : Jn.j19 Tryz.prog 3 Tryz.f3 (Rows.OpenSpec.upto Rows.critReadsSpec).bare Rows.critReadsUptoRow = true := by kernel_rfl
theorem critReads_j20 : Jn.j20 Tryz.prog 3 Tryz.f3 (Rows.OpenSpec.upto Rows.critReadsSpec).bare Rows.critReadsUptoRow = true := by kernel_rfl
theorem critReads_j21 : Jn.j21 Tryz.prog 3 Tryz.f3 (Rows.OpenSpec.upto Rows.critReadsSpec).bare Rows.critReadsUptoRow = true := by kernel_rfl
theorem critReads_j22 : Jn.j22 Tryz.prog 3 Tryz.f3 (Rows.OpenSpec.upto Rows.critReadsSpec).bare Rows.critReadsUptoRow = true := by kernel_rfl
theorem critReads_j23 : Jn.j23 Tryz.prog 3 Tryz.f3 (Rows.OpenSpec.upto Rows.critReadsSpec).bare Rows.critReadsUptoRow = true := by kernel_rfl
theorem critReads_j24 : Jn.j24 Tryz.prog 3 Tryz.f3 (Rows.OpenSpec.upto Rows.critReadsSpec).bare Rows.critReadsUptoRow = true := by kernel_rfl
theorem critReads_j25 : Jn.j25 Tryz.prog 3 Tryz.f3 (Rows.OpenSpec.upto Rows.critReadsSpec).bare Rows.critReadsUptoRow = true := by kernel_rfl
theorem critReads_j26 : Jn.j26 Tryz.prog 3 Tryz.f3 (Rows.OpenSpec.upto Rows.critReadsSpec).bare Rows.critReadsUptoRow = true := by kernel_rfl
theorem critReads_j27 : Jn.j27 Tryz.prog 3 Tryz.f3 (Rows.OpenSpec.upto Rows.critReadsSpec).bare Rows.critReadsUptoRow = true := by kernel_rfl
theorem critReads_j28 : Jn.j28 Tryz.prog 3 Tryz.f3 (Rows.OpenSpec.upto Rows.critReadsSpec).bare Rows.critReadsUptoRow = true := by kernel_rfl
theorem critReads_j29 : Jn.j29 Tryz.prog 3 Tryz.f3 (Rows.OpenSpec.upto Rows.critReadsSpec).bare Rows.critReadsUptoRow = true := by kernel_rfl
theorem critReads_j30 : Jn.j30 Tryz.prog 3 Tryz.f3 (Rows.OpenSpec.upto Rows.critReadsSpec).bare Rows.critReadsUptoRow = true := by kernel_rfl
theorem critReads_j31 : Jn.j31 Tryz.prog 3 Tryz.f3 (Rows.OpenSpec.upto Rows.critReadsSpec).bare Rows.critReadsUptoRow = true := by kernel_rfl
theorem critReads_facts : joinedFacts Tryz.prog 3 Tryz.f3 (Rows.OpenSpec.upto Rows.critReadsSpec).bare Rows.critReadsUptoRow = true := joined_of critReads_j0 critReads_j1 critReads_j2 critReads_j3 critReads_j4 critReads_j5 critReads_j6 critReads_j7 critReads_j8 critReads_j9 critReads_j10 critReads_j11 critReads_j12 critReads_j13 critReads_j14 critReads_j15 critReads_j16 critReads_j17 critReads_j18 critReads_j19 critReads_j20 critReads_j21 critReads_j22 critReads_j23 critReads_j24 critReads_j25 critReads_j26 critReads_j27 critReads_j28 critReads_j29 critReads_j30 critReads_j31
theorem critReads_inst : Tryz.f3.isInstance Tryz.prog Rows.critReadsUptoRow.origin Rows.critReadsUptoRow.targs := of_decide_eq_true (by kernel_rfl)
theorem critReads_wrap : Tryz.f3.isWrapper Tryz.prog Rows.critReadsUptoRow.wrapper Rows.critReadsUptoRow.mainSum := by unfold Func.isWrapper; rw [if_neg (of_decide_eq_false (by kernel_rfl))]; exact ⟨rfl, rfl⟩
theorem critReads_wf : Rows.critReadsUptoRow.wfByText (Rows.OpenSpec.upto Rows.critReadsSpec) = true := by kernel_rfl
theorem critReads_main : Tryz.prog.mainIs = some (Rows.critReadsUptoCard.stood.harness.1, Rows.critReadsUptoCard.stood.harness.2.toList) := by kernel_rfl
theorem critReads_looks : false = Tryz.prog.looks [] := by kernel_rfl
theorem critReads_stand : ([22, 3, 23].all fun u => !Tryz.prog.wantsStandIn u) = true := by kernel_rfl
theorem critReads_goes : false = Rows.critReadsUptoRow.goesBy Tryz.prog := by kernel_rfl

theorem critReads_said : Rows.CritReadsUptoSaid :=
  OpenClaim.holds_of_cond 3 Tryz.f3 rfl rfl rfl rfl rfl rfl rfl ⟨rfl, rfl, rfl, rfl, rfl⟩ rfl rfl rfl rfl rfl critReads_named Tryz.func3 critReads_facts
    critReads_inst critReads_wrap
    (fun os started H enc _ _ => critReads_lifted os started H enc)

theorem critReads_holds : Rows.CritReadsUptoCardSaid :=
  Claim7.holds_tied_plain_at .later [] [.data, .pinned] true _ false critReads_said (fun _ h => by cases h) critReads_wf (fun _ h => by cases h) critReadsUpto_row_tie rfl ⟨rfl, rfl⟩ critReads_main rfl
    (fun f fn hf hfn => by
      obtain rfl : f = 3 := Option.some.inj (critReads_named2.symm.trans hf) |>.symm
      obtain rfl : fn = Tryz.f3 := (Option.some.inj (Tryz.func3.symm.trans hfn)).symm
      exact ⟨critReads_looks, fun j t ht => by
        rw [Tryz.params3] at ht
        have hm : t ∈ [22, 3, 23] := by simpa using Array.mem_of_getElem? ht
        exact (show Tryz.prog.wantsStandIn t = false by simpa using List.all_eq_true.1 critReads_stand t hm)⟩)
    critReads_goes

#print axioms critReads_holds

end Go.Proofs.YtnfabgbidkddhaaGreatDoor
