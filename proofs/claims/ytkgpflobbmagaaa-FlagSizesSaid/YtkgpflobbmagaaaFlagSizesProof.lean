/-
  A flag's keyword does not hang on the size of letters: pillarboxlaw15.FlagSizes returns true for every input, and turns nothing. No condition beyond the form's own reach.
-/
import Derived.Test.YtkgpflobbmagaaaFlagSizes
import Derived.Test.YtkgpflobbmagaaaLaw
import Derived.Deep.Slices
namespace Go.Proofs.Ytkgpflobbmagaaa
open Go.ChangeShapes Go.WideShapes Go.ChangeAt Go.RowKit
open Go.ChangeMaps (open_string)

section
variable {H : Type} {enc : TypeId × Value → H} {P : Program} {w : World} {base : Nat} {spare : Nat → Bool} {held : Bool}

/-- A slice of bools that came in: its shape and its cells. -/
theorem bools_in {t e : TypeId} {v : Value} {d : DataW H} {ps : List MemPlace} (ht : P.underlying t = some (.slice e)) (he : P.underlying e = some .bool) (hc : P.cellsOf e = 1)
    (hv : ∃ A n cap, v = .slice A n cap) (h : DataW.Trod enc P w base spare held t v d ps) :
    ∃ (A : Option Addr) (n cap : Nat) (bs : Nat → Bool), v = .slice A n cap ∧ n ≤ maxLen ∧ (0 < n → ∃ b off, A = some ⟨b, off, none⟩ ∧ b < w.heap.size ∧ ∀ j, j < n → w.cell? ⟨b, off + j, none⟩ = some (.bool (bs j))) := by
  obtain ⟨A, n, cap, rfl⟩ := hv
  obtain ⟨fuel, hf⟩ := h
  rcases Deep.open_slice1 ht hc hf with ⟨hcs, _⟩ | ⟨a, len, cap', m, k, V, D, Pl, hcs, _, hl, hm, hmm, _, hx⟩
  · simp [Value.cells] at hcs
    obtain ⟨rfl, rfl, rfl⟩ := hcs
    exact ⟨none, 0, 0, fun _ => false, rfl, Nat.zero_le _, fun h => absurd h (by omega)⟩
  · simp [Value.cells] at hcs
    obtain ⟨rfl, rfl, rfl⟩ := hcs
    have hle : n ≤ m := by
      rw [hmm]
      split <;> omega
    have hb : ∀ j, j < n → ∃ b, V j = .bool b := fun j hj => by
      obtain ⟨b, h1, _⟩ := DataW.trod_bool he (hx j (by omega)).2
      simp at h1
      exact ⟨b, h1⟩
    refine ⟨some a, n, cap, fun j => match V j with | .bool b => b | _ => false, rfl, by omega, fun hn => ?_⟩
    have hspot : a.spot = none := by
      have h0 := (hx 0 (by omega)).1
      unfold World.cell? at h0
      have : a.add 0 = a := by unfold Addr.add; simp
      rw [this] at h0
      split at h0
      · cases hs : a.spot with
        | none => rfl
        | some q => simp [hs] at h0
      · cases h0
    obtain ⟨b, off, sp⟩ := a
    simp only at hspot
    subst hspot
    refine ⟨b, off, rfl, ?_, fun j hj => ?_⟩
    · have h0 := (hx 0 (by omega)).1
      have := World.block_lt_of_cell? w _ h0
      rw [Addr.add_lit] at this
      exact this
    · have h1 := (hx j (by omega)).1
      rw [Addr.add_lit] at h1
      rw [h1]
      obtain ⟨c, hc2⟩ := hb j hj
      simp [hc2]
end

theorem Try.cells4 : Try.prog.cellsOf 4 = 1 := by kernel_rfl

set_option maxRecDepth 100000 in
theorem flagSizes_lifted (os : Os) (started : os.Started) (H : Type) (enc : TypeId × Value → H) :
    ReturnsInHanded {} Try.checked os 4 .any (Rows.flagSizesSpec.pre6 enc Try.prog Try.f4 Rows.flagSizesRow.domain false) (Rows.flagSizesSpec.post enc Try.prog Try.f4 false true false false) := by
  refine returnsInHanded_of_change_sized (C := Try.checked) Try.own started (by kernel_rfl) Try.func4
    (ChangeSpec.witness6 (enc := enc) (C := Try.checked) false ⟨#[], #[.string ByteArray.empty, .slice none 0 0], []⟩ 8 (by kernel_rfl) (by kernel_rfl) (by kernel_rfl) (by kernel_rfl)) ?_
  intro W base args ds gs before hval0 hW _ hsz0 _
  have hsz : (DataW.weightsEach Try.prog (Try.f4.params.toList ++ Rows.flagSizesSpec.plain.varTypes Try.prog) (ds ++ gs)).all (· ≤ reachBytes) = true := hsz0
  clear hsz0
  have hval : ∀ (j : Nat) t v, Try.f4.params[j]? = some t → args[j]? = some v → Value.okWide Try.prog W .any base t v := hval0
  have hW' := hW
  obtain ⟨p, q, hA0, hV, rfl, _, _⟩ := hW
  have hA : DataW.TrodAll enc Try.prog W 0 (fun _ => true) true Try.f4.params.toList args.toList ds p := hA0
  rw [Try.params4] at hA hval hsz
  obtain ⟨v0, v1, d0, d1, p0, p1, rfl, rfl, rfl, h0, h1⟩ := trodAll_two hA
  obtain ⟨rfl, rfl⟩ := trodVars_none hV
  obtain ⟨s, rfl, rfl, rfl, ws⟩ := open_string Try.underlying9 (hval 0 9 v0 rfl rfl) h0
  obtain ⟨A, n, cap, bs, rfl, hn, hA1⟩ := bools_in Try.underlying28 Try.underlying4 Try.cells4 (okWide_slice Try.underlying28 (hval 1 28 v1 rfl rfl)) h1
  clear hA0 hval0
  refine (flagSizes_any s A n cap bs W hn hA1).mono fun e W' ⟨he, hb⟩ => ⟨_, he, ?_⟩
  exact law_post Try.laidOut (by kernel_rfl) rfl rfl Try.underlying4 hW' rfl hb

theorem flagSizes_holds : Rows.FlagSizesSaid :=
  OpenClaim.holds_of_wide 4 Try.f4 rfl rfl rfl rfl rfl rfl rfl ⟨rfl, rfl, rfl, rfl, rfl⟩ rfl rfl rfl rfl rfl (by kernel_rfl) Try.func4 (by kernel_rfl)
    (of_decide_eq_true (by kernel_rfl)) (by unfold Func.isWrapper; rw [if_neg (of_decide_eq_false (by kernel_rfl))]; exact ⟨rfl, rfl⟩)
    (fun os started H enc _ => flagSizes_lifted os started H enc)

#print axioms flagSizes_holds

end Go.Proofs.Ytkgpflobbmagaaa
