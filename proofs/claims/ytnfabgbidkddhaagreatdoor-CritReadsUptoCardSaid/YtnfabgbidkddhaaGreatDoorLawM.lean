/-
  The frame that all the laws of this seat share: from 'the call returns true, and nothing that was there has turned' to what the row asks behind the call.
-/
import Derived.Test.YtnfabgbidkddhaaGreatDoorGCA
import Derived.Test.YtnfabgbidkddhaaGreatDoorRows
import Derived.ProofKit
import Derived.SizedLaws
namespace Go.Proofs.YtnfabgbidkddhaaGreatDoor
open Go.RowKit Go.ChangeShapes Go.WideShapes

theorem Try.own : ownKnob Tryz.prog.godebug = none := by kernel_rfl
theorem Try.laidOut : laidOutB Tryz.prog = true := by kernel_rfl

section
variable {H : Type} {enc : TypeId × Value → H} {P : Program}

/-- Each argument reads behind the call as it read before, where nothing that was there has turned. -/
theorem trodAll_below (hl : laidOutB P = true) {W W' : World} (hb : Below W.heap.size W W') : ∀ {ts : List TypeId} {vs : List Value} {ds : List (DataW H)} {ps : List MemPlace},
    (∀ t ∈ ts, P.readableRec t = true ∧ t < P.types.size) → DataW.TrodAll enc P W 0 (fun _ => true) true ts vs ds ps → (∀ x ∈ ps, x.block < W.heap.size) →
    DataW.TrodAll enc P W' 0 (fun b => decide (b < W.heap.size)) true ts vs ds ps
  | [], [], [], _, _, h, _ => h
  | _ :: _, _ :: _, _ :: _, _, hr, ⟨p, q, h1, h2, hps⟩, hlt => by
    subst hps
    refine ⟨p, q, ?_, ?_, rfl⟩
    · obtain ⟨a, b⟩ := hr _ (List.mem_cons_self ..)
      exact Below.trod hl a b h1 hb (fun x hx => hlt x (List.mem_append_left _ hx))
    · exact trodAll_below hl hb (fun t ht => hr t (List.mem_cons_of_mem _ ht)) h2 (fun x hx => hlt x (List.mem_append_right _ hx))

/-- What a law's row asks behind the call. -/
theorem law_post {f : Func} {s : ChangeSpec} {apart fresh handsOn : Bool} {W W' : World} {args : Array Value} {ds gs : List (DataW H)} {before : List MemPlace} {tb : TypeId}
    (hl : laidOutB P = true) (hr : (f.params.toList.all fun t => P.readableRec t && decide (t < P.types.size)) = true) (hvars : s.vars = [])
    (hres : f.resultTypes = #[tb]) (htb : P.underlying tb = some .bool)
    (hW : DataW.Whole enc P f.params.toList s.vars apart W args.toList ds gs before)
    (hfn : s.fn H (ds ++ gs) = { results := [.lit (.bool true)], args := ds })
    (hb : Below W.heap.size W W') : s.post enc P f apart fresh handsOn false W args (.bool true) W' := by
  have hlt : ∀ p ∈ before, p.block < W.heap.size := fun p hp => hW.lt p hp
  obtain ⟨p, q, hA, hV, hps, _, _⟩ := id hW
  refine ⟨ds, gs, before, [], p, [], hW, ?_, ?_, ?_, hb.frame _, fun h => by cases h⟩
  · rw [hfn, hres]
    exact trodAll_mk1 (shut_bool htb true)
  · rw [hfn]
    refine trodAll_below hl hb (fun t ht => ?_) hA (fun x hx => hlt x (by rw [hps]; exact List.mem_append_left _ hx))
    have h := List.all_eq_true.1 hr t ht
    rw [Bool.and_eq_true, decide_eq_true_eq] at h
    exact h
  · rw [hvars, hfn]
    rfl
end

end Go.Proofs.YtnfabgbidkddhaaGreatDoor
