/-
  The numbers of any set, whether one is within any, and the text of any numbers, are the document's: pillarboxlaw21.SeqAll returns true for every input, and turns nothing. The card: the listed tables as the program's text lays them.
-/
import Derived.Test.YtogmdfjgedekgaaDoorSeqAll
import Derived.Test.YtogmdfjgedekgaaDoorRngIn
import Derived.Test.YtogmdfjgedekgaaDoorTens
import Derived.Test.YtogmdfjgedekgaaDoorLawC
namespace Go.Proofs.YtogmdfjgedekgaaDoor
open Go.RowKit Go.ChangeShapes Go.WideShapes Go.ChangeAt
open Go.ChangeMaps (open_string)

set_option maxRecDepth 100000 in
theorem seqAll_lifted (os : Os) (started : os.Started) (H : Type) (enc : TypeId × Value → H) :
    ReturnsInHanded {} Tryd.checked os 7 .any (fun w args => (Rows.seqAllSpec.pre enc Tryd.prog Tryd.f7 [] false w args ∧ laidMetH Tryd.prog Rows.seqAllRow.laid w) ∧ sizedMet enc Tryd.prog Tryd.f7 (OpenSpec.ofChange Rows.seqAllSpec) false w args)
      (Rows.seqAllSpec.post enc Tryd.prog Tryd.f7 false true false false) := by
  refine lifted_listed (C := Tryd.checked) (X := fun w => laidMetH Tryd.prog Rows.seqAllRow.laid w) (v0 := #[.string ⟨#[]⟩, .int .i64 0, .slice none 0 0, .int .i64 0, .slice none 0 0]) (fun _ _ hh h => h.of_heap hh) Try.own started (by kernel_rfl) Tryd.func7
    (World.laidAll Tryd.prog os Rows.seqAllRow.laid) 8 (World.laidAll_os _ _ _) (World.shaped_of_ZipB (by kernel_rfl) (by kernel_rfl)) (by kernel_rfl) (by kernel_rfl) (by kernel_rfl)
    (by rw [MakeChecks.laidMetH_plain _ _ _ (by kernel_rfl)]; exact laidMet_laidAll _ (by kernel_rfl) (by kernel_rfl)) ?_
  intro W base args ds gs before hval0 hW hsz0 hL hsh
  have hsz : (DataW.weightsEach Tryd.prog (Tryd.f7.params.toList ++ Rows.seqAllSpec.plain.varTypes Tryd.prog) (ds ++ gs)).all (· ≤ reachBytes) = true := hsz0
  have hval : ∀ (j : Nat) t v, Tryd.f7.params[j]? = some t → args[j]? = some v → Value.okWide Tryd.prog W .any base t v := hval0
  have hm := mx_of_shaped hsh
  have hW' := hW
  obtain ⟨p, q, hA0, hV, rfl, _, _⟩ := hW
  have hA : DataW.TrodAll enc Tryd.prog W 0 (fun _ => true) true Tryd.f7.params.toList args.toList ds p := hA0
  rw [Tryd.params7] at hA hval hsz
  obtain ⟨v0, v1, v2, v3, v4, d0, d1, d2, d3, d4, p0, p1, p2, p3, p4, rfl, rfl, rfl, h0, h1, h2, h3, h4⟩ := trodAll_five hA
  obtain ⟨rfl, rfl⟩ := trodVars_none hV
  rw [MakeChecks.laidMetH_plain _ _ _ (by kernel_rfl)] at hL
  have ht : Tens W := tens_of_laid hL (by simp [Rows.seqAllRow])
  obtain ⟨s, rfl, rfl, rfl, ws⟩ := open_string Tryd.underlying9 (hval 0 9 v0 rfl rfl) h0
  obtain ⟨star, rfl, rfl, rfl, w1⟩ := open_int Tryd.underlying3 (hval 1 3 v1 rfl rfl) h1
  obtain ⟨x, rfl, rfl, rfl, w3⟩ := open_int Tryd.underlying3 (hval 3 3 v3 rfl rfl) h3
  obtain ⟨fuel2, hf2⟩ := h2
  obtain ⟨fuel4, hf4⟩ := h4
  have hc2 : ∃ A n cap, v2 = .slice A n cap := okWide_slice Tryd.underlying24 (hval 2 24 v2 rfl rfl)
  obtain ⟨A2, n2, cap2, rfl⟩ := hc2
  have hc4 : ∃ A n cap, v4 = .slice A n cap := okWide_slice Tryd.underlying45 (hval 4 45 v4 rfl rfl)
  obtain ⟨A4, n4, cap4, rfl⟩ := hc4
  obtain ⟨l, hl⟩ := ranges_in Tryd.underlying24 Tryd.underlying35 (by kernel_rfl) (by rfl) (by rfl) (by kernel_rfl) (by kernel_rfl) Tryd.underlying3 Tryd.underlying3 hf2
  obtain ⟨ns, hns, hb0⟩ := nums_in Tryd.underlying45 Tryd.underlying3 (by kernel_rfl) hf4
  have hb : ∀ y ∈ ns, y ≤ 9223372036854775807 := fun y hy => (wf_i64' (hb0 y hy)).2
  clear hA0 hval0 hsz0
  refine (seqAll_any s star _ l x _ ns W (by have := sized_string hsz (j := 0) (t := 9) rfl rfl; simpa [reachBytes] using this) (wf_i64' w1).2 hl hns hb hm ht).mono fun e W' ⟨he, hb⟩ => ⟨_, he, ?_⟩
  exact law_post Try.laidOut (by kernel_rfl) rfl rfl Tryd.underlying4 hW' rfl hb

theorem seqAll_said : Rows.SeqAllSaid :=
  OpenClaim.holds_of_wide 7 Tryd.f7 rfl rfl rfl rfl rfl rfl rfl ⟨rfl, rfl, rfl, rfl, rfl⟩ rfl rfl rfl rfl rfl (by kernel_rfl) Tryd.func7 (by kernel_rfl)
    (of_decide_eq_true (by kernel_rfl)) (by unfold Func.isWrapper; rw [if_neg (of_decide_eq_false (by kernel_rfl))]; exact ⟨rfl, rfl⟩)
    (fun os started H enc _ => seqAll_lifted os started H enc)

theorem seqAll_holds : Rows.SeqAllCardSaid :=
  Claim7.holds_tied_plain_at .later [] [.data, .data, .data, .data, .pinned] true _ false seqAll_said (fun _ h => by cases h) (by kernel_rfl) (fun _ h => by cases h) seqAll_row_tie rfl ⟨rfl, rfl⟩ (by kernel_rfl) rfl
    (fun f fn hf hfn => by
      obtain rfl : f = 7 := Option.some.inj ((show Tryd.prog.funcNamed "pillarbox/pillarboxlaw21.SeqAll" = some 7 by kernel_rfl).symm.trans hf) |>.symm
      obtain rfl : fn = Tryd.f7 := (Option.some.inj (Tryd.func7.symm.trans hfn)).symm
      exact ⟨by kernel_rfl, fun j t ht => by
        rw [Tryd.params7] at ht
        have hm : t ∈ [9, 3, 24, 3, 45] := by simpa using Array.mem_of_getElem? ht
        have hall : ([9, 3, 24, 3, 45].all fun u => !Tryd.prog.wantsStandIn u) = true := by kernel_rfl
        exact (show Tryd.prog.wantsStandIn t = false by simpa using List.all_eq_true.1 hall t hm)⟩)
    (by kernel_rfl)

#print axioms seqAll_holds

end Go.Proofs.YtogmdfjgedekgaaDoor
