/-
  What is read is a right filter; so is that of NOT and of a list of it, and they hold as they should: pillarboxlaw23.CritRights returns true, and turns nothing, for every input whose bulk (each value counted each time it is met) is at most 1048576. The card: the listed tables as the program's text lays them.
-/
import Derived.Test.YtnfabgbidkddhaaGreatDoorRightsWM
import Derived.Test.YtnfabgbidkddhaaGreatDoorGCW
import Derived.Test.YtnfabgbidkddhaaGreatDoorGCL
namespace Go.Proofs.YtnfabgbidkddhaaGreatDoor
open Go.RowKit Go.ChangeShapes Go.WideShapes Go.ChangeAt
open Go.ChangeMaps (open_string)

set_option maxRecDepth 100000 in
theorem critRights_lifted (os : Os) (started : os.Started) (H : Type) (enc : TypeId × Value → H) :
    ReturnsInHanded {} Tryz.checked os 4 .any (fun w args => ((Rows.OpenSpec.upto Rows.critRightsSpec).pre enc Tryz.prog Tryz.f4 [] false w args ∧ laidMetH Tryz.prog Rows.critRightsUptoRow.laid w) ∧ sizedMet enc Tryz.prog Tryz.f4 (Rows.OpenSpec.upto Rows.critRightsSpec) false w args)
      (Rows.critRightsSpec.post enc Tryz.prog Tryz.f4 false true false false) := by
  refine lifted_listedU (C := Tryz.checked) (k := Rows.uptoSmall) (X := fun w => laidMetH Tryz.prog Rows.critRightsUptoRow.laid w) (v0 := #[.slice none 0 0, .int .i64 0, .slice none 0 0, .agg #[.int .i64 0, .int .i64 0, .string ⟨#[]⟩, .int .i64 0, .slice none 0 0, .slice none 0 0, .int .i64 0, .int .i64 0]]) (fun _ _ hh h => h.of_heap hh) Try.own started (by kernel_rfl) Tryz.func4
    (World.laidAll Tryz.prog os Rows.critRightsUptoRow.laid) 8 (World.laidAll_os _ _ _) (World.shaped_of_ZipB (by kernel_rfl) (by kernel_rfl)) (by kernel_rfl) (by kernel_rfl) (by kernel_rfl) (by kernel_rfl)
    (by rw [MakeChecks.laidMetH_plain _ _ _ (by kernel_rfl)]; exact laidMet_laidAll _ (by kernel_rfl) (by kernel_rfl)) ?_
  intro W base args ds gs before hval0 hW hkk hL hsh
  have hval : ∀ (j : Nat) t v, Tryz.f4.params[j]? = some t → args[j]? = some v → Value.okWide Tryz.prog W .any base t v := hval0
  have hm := mx_of_shaped hsh
  have hW' := hW
  obtain ⟨p, q, hA0, hV, rfl, _, _⟩ := hW
  have hA : DataW.TrodAll enc Tryz.prog W 0 (fun _ => true) true Tryz.f4.params.toList args.toList ds p := hA0
  rw [Tryz.params4] at hA hval
  obtain ⟨v0, v1, v2, v3, d0, d1, d2, d3, p0, p1, p2, p3, rfl, rfl, rfl, h0, h1, h2, h3⟩ := trodAll_four hA
  obtain ⟨rfl, rfl⟩ := trodVars_none hV
  obtain ⟨n1, rfl, rfl, rfl, w1⟩ := open_int Tryz.underlying3 (hval 1 3 v1 rfl rfl) h1
  obtain ⟨fuel0, hf0⟩ := h0
  have hc0 : ∃ A n cap, v0 = .slice A n cap := okWide_slice Tryz.underlying22 (hval 0 22 v0 rfl rfl)
  obtain ⟨A0, m0, cap0, rfl⟩ := hc0
  obtain ⟨ws, hr0, hz0⟩ := words_in fuel0 _ _ hf0
  obtain ⟨fuel2, hf2⟩ := h2
  have hc2 : ∃ A n cap, v2 = .slice A n cap := okWide_slice Tryz.underlying23 (hval 2 23 v2 rfl rfl)
  obtain ⟨A2, m2, cap2, rfl⟩ := hc2
  obtain ⟨us, hr2⟩ := ints_inW Tryz.underlying23 Tryz.underlying3 (by kernel_rfl) hf2
  have hbulk : szL ws ≤ 1048576 := by
    have hz1 : szL ws ≤ Rows.uptoBulk d0 := hz0
    have h := of_decide_eq_true hkk
    simp only [List.append_nil, Rows.uptoBulkAll] at h
    omega
  obtain ⟨fuel3, hf3⟩ := h3
  obtain ⟨cs3, rfl, hs3⟩ := okWide_struct Tryz.underlying39 (hval 3 39 v3 rfl rfl)
  obtain ⟨em, i3, t3, b3, kv3, mv3, rfl, hk3, hm3⟩ := mail_in hs3 hf3
  clear hA0 hval0
  refine (critRights_any W _ ws n1 _ us em i3 t3 b3 kv3 mv3 hm hr0 hbulk hr2 hk3 hm3).mono fun e W' ⟨he, hb⟩ => ⟨_, he, ?_⟩
  exact law_post Try.laidOut (by kernel_rfl) rfl rfl Tryz.underlying4 hW' rfl hb

theorem critRights_named : Tryz.prog.funcNamed Rows.critRightsUptoRow.func = some 4 := by kernel_rfl
theorem critRights_named2 : Tryz.prog.funcNamed "pillarbox/pillarboxlaw23.CritRights" = some 4 := critRights_named
theorem critRights_j0 : Jn.j0 Tryz.prog 4 Tryz.f4 (Rows.OpenSpec.upto Rows.critRightsSpec).bare Rows.critRightsUptoRow = true := by kernel_rfl
theorem critRights_j1 : Jn.j1 Tryz.prog 4 Tryz.f4 (Rows.OpenSpec.upto Rows.critRightsSpec).bare Rows.critRightsUptoRow = true := by kernel_rfl
theorem critRights_j2 : Jn.j2 Tryz.prog 4 Tryz.f4 (Rows.OpenSpec.upto Rows.critRightsSpec).bare Rows.critRightsUptoRow = true := by kernel_rfl
theorem critRights_j3 : Jn.j3 Tryz.prog 4 Tryz.f4 (Rows.OpenSpec.upto Rows.critRightsSpec).bare Rows.critRightsUptoRow = true := by kernel_rfl
theorem critRights_j4 : Jn.j4 Tryz.prog 4 Tryz.f4 (Rows.OpenSpec.upto Rows.critRightsSpec).bare Rows.critRightsUptoRow = true := by kernel_rfl
theorem critRights_j5 : Jn.j5 Tryz.prog 4 Tryz.f4 (Rows.OpenSpec.upto Rows.critRightsSpec).bare Rows.critRightsUptoRow = true := by kernel_rfl
theorem critRights_j6 : Jn.j6 Tryz.prog 4 Tryz.f4 (Rows.OpenSpec.upto Rows.critRightsSpec).bare Rows.critRightsUptoRow = true := by kernel_rfl
theorem critRights_j7 : Jn.j7 Tryz.prog 4 Tryz.f4 (Rows.OpenSpec.upto Rows.critRightsSpec).bare Rows.critRightsUptoRow = true := by kernel_rfl
theorem critRights_j8 : Jn.j8 Tryz.prog 4 Tryz.f4 (Rows.OpenSpec.upto Rows.critRightsSpec).bare Rows.critRightsUptoRow = true := by kernel_rfl
theorem critRights_j9 : Jn.j9 Tryz.prog 4 Tryz.f4 (Rows.OpenSpec.upto Rows.critRightsSpec).bare Rows.critRightsUptoRow = true := by kernel_rfl
theorem critRights_j10 : Jn.j10 Tryz.prog 4 Tryz.f4 (Rows.OpenSpec.upto Rows.critRightsSpec).bare Rows.critRightsUptoRow = true := by kernel_rfl
theorem critRights_j11 : Jn.j11 Tryz.prog 4 Tryz.f4 (Rows.OpenSpec.upto Rows.critRightsSpec).bare Rows.critRightsUptoRow = true := by kernel_rfl
theorem critRights_j12 : Jn.j12 Tryz.prog 4 Tryz.f4 (Rows.OpenSpec.upto Rows.critRightsSpec).bare Rows.critRightsUptoRow = true := by kernel_rfl
theorem critRights_j13 : Jn.j13 Tryz.prog 4 Tryz.f4 (Rows.OpenSpec.upto Rows.critRightsSpec).bare Rows.critRightsUptoRow = true := by kernel_rfl
theorem critRights_j14 : Jn.j14 Tryz.prog 4 Tryz.f4 (Rows.OpenSpec.upto Rows.critRightsSpec).bare Rows.critRightsUptoRow = true := by kernel_rfl
theorem critRights_j15 : Jn.j15 Tryz.prog 4 Tryz.f4 (Rows.OpenSpec.upto Rows.critRightsSpec).bare Rows.critRightsUptoRow = true := by kernel_rfl
theorem critRights_j16 : Jn.j16 Tryz.prog 4 Tryz.f4 (Rows.OpenSpec.upto Rows.critRightsSpec).bare Rows.critRightsUptoRow = true := by kernel_rfl
theorem critRights_j17 : Jn.j17 Tryz.prog 4 Tryz.f4 (Rows.OpenSpec.upto Rows.critRightsSpec).bare Rows.critRightsUptoRow = true := by kernel_rfl
theorem critRights_j18 : Jn.j18 Tryz.prog 4 Tryz.f4 (Rows.OpenSpec.upto Rows.critRightsSpec).bare Rows.critRightsUptoRow = true := by kernel_rfl
theorem critRights_j19 : Jn.j19 Tryz.prog 4 Tryz.f4 (Rows.OpenSpec.upto Rows.critRightsSpec).bare Rows.critRightsUptoRow = true := by kernel_rfl
theorem critRights_j20 : Jn.j20 Tryz.prog 4 Tryz.f4 (Rows.OpenSpec.upto Rows.critRightsSpec).bare Rows.critRightsUptoRow = true := by kernel_rfl
theorem critRights_j21 : Jn.j21 Tryz.prog 4 Tryz.f4 (Rows.OpenSpec.upto Rows.critRightsSpec).bare Rows.critRightsUptoRow = true := by kernel_rfl
theorem critRights_j22 : Jn.j22 Tryz.prog 4 Tryz.f4 (Rows.OpenSpec.upto Rows.critRightsSpec).bare Rows.critRightsUptoRow = true := by kernel_rfl
theorem critRights_j23 : Jn.j23 Tryz.prog 4 Tryz.f4 (Rows.OpenSpec.upto Rows.critRightsSpec).bare Rows.critRightsUptoRow = true := by kernel_rfl
theorem critRights_j24 : Jn.j24 Tryz.prog 4 Tryz.f4 (Rows.OpenSpec.upto Rows.critRightsSpec).bare Rows.critRightsUptoRow = true := by kernel_rfl
theorem critRights_j25 : Jn.j25 Tryz.prog 4 Tryz.f4 (Rows.OpenSpec.upto Rows.critRightsSpec).bare Rows.critRightsUptoRow = true := by kernel_rfl
theorem critRights_j26 : Jn.j26 Tryz.prog 4 Tryz.f4 (Rows.OpenSpec.upto Rows.critRightsSpec).bare Rows.critRightsUptoRow = true := by kernel_rfl
theorem critRights_j27 : Jn.j27 Tryz.prog 4 Tryz.f4 (Rows.OpenSpec.upto Rows.critRightsSpec).bare Rows.critRightsUptoRow = true := by kernel_rfl
theorem critRights_j28 : Jn.j28 Tryz.prog 4 Tryz.f4 (Rows.OpenSpec.upto Rows.critRightsSpec).bare Rows.critRightsUptoRow = true := by kernel_rfl
theorem critRights_j29 : Jn.j29 Tryz.prog 4 Tryz.f4 (Rows.OpenSpec.upto Rows.critRightsSpec).bare Rows.critRightsUptoRow = true := by kernel_rfl
theorem critRights_j30 : Jn.j30 Tryz.prog 4 Tryz.f4 (Rows.OpenSpec.upto Rows.critRightsSpec).bare Rows.critRightsUptoRow = true := by kernel_rfl
theorem critRights_j31 : Jn.j31 Tryz.prog 4 Tryz.f4 (Rows.OpenSpec.upto Rows.critRightsSpec).bare Rows.critRightsUptoRow = true := by kernel_rfl
theorem critRights_facts : joinedFacts Tryz.prog 4 Tryz.f4 (Rows.OpenSpec.upto Rows.critRightsSpec).bare Rows.critRightsUptoRow = true := joined_of critRights_j0 critRights_j1 critRights_j2 critRights_j3 critRights_j4 critRights_j5 critRights_j6 critRights_j7 critRights_j8 critRights_j9 critRights_j10 critRights_j11 critRights_j12 critRights_j13 critRights_j14 critRights_j15 critRights_j16 critRights_j17 critRights_j18 critRights_j19 critRights_j20 critRights_j21 critRights_j22 critRights_j23 critRights_j24 critRights_j25 critRights_j26 critRights_j27 critRights_j28 critRights_j29 critRights_j30 critRights_j31
theorem critRights_inst : Tryz.f4.isInstance Tryz.prog Rows.critRightsUptoRow.origin Rows.critRightsUptoRow.targs := of_decide_eq_true (by kernel_rfl)
theorem critRights_wrap : Tryz.f4.isWrapper Tryz.prog Rows.critRightsUptoRow.wrapper Rows.critRightsUptoRow.mainSum := by unfold Func.isWrapper; rw [if_neg (of_decide_eq_false (by kernel_rfl))]; exact ⟨rfl, rfl⟩
theorem critRights_wf : Rows.critRightsUptoRow.wfByText (Rows.OpenSpec.upto Rows.critRightsSpec) = true := by kernel_rfl
theorem critRights_main : Tryz.prog.mainIs = some (Rows.critRightsUptoCard.stood.harness.1, Rows.critRightsUptoCard.stood.harness.2.toList) := by kernel_rfl
theorem critRights_looks : false = Tryz.prog.looks [] := by kernel_rfl
theorem critRights_stand : ([22, 3, 23, 39].all fun u => !Tryz.prog.wantsStandIn u) = true := by kernel_rfl
theorem critRights_goes : false = Rows.critRightsUptoRow.goesBy Tryz.prog := by kernel_rfl

theorem critRights_said : Rows.CritRightsUptoSaid :=
  OpenClaim.holds_of_cond 4 Tryz.f4 rfl rfl rfl rfl rfl rfl rfl ⟨rfl, rfl, rfl, rfl, rfl⟩ rfl rfl rfl rfl rfl critRights_named Tryz.func4 critRights_facts
    critRights_inst critRights_wrap
    (fun os started H enc _ _ => critRights_lifted os started H enc)

theorem critRights_holds : Rows.CritRightsUptoCardSaid :=
  Claim7.holds_tied_plain_at .later [] [.data, .pinned] true _ false critRights_said (fun _ h => by cases h) critRights_wf (fun _ h => by cases h) critRightsUpto_row_tie rfl ⟨rfl, rfl⟩ critRights_main rfl
    (fun f fn hf hfn => by
      obtain rfl : f = 4 := Option.some.inj (critRights_named2.symm.trans hf) |>.symm
      obtain rfl : fn = Tryz.f4 := (Option.some.inj (Tryz.func4.symm.trans hfn)).symm
      exact ⟨critRights_looks, fun j t ht => by
        rw [Tryz.params4] at ht
        have hm : t ∈ [22, 3, 23, 39] := by simpa using Array.mem_of_getElem? ht
        exact (show Tryz.prog.wantsStandIn t = false by simpa using List.all_eq_true.1 critRights_stand t hm)⟩)
    critRights_goes

#print axioms critRights_holds

end Go.Proofs.YtnfabgbidkddhaaGreatDoor
