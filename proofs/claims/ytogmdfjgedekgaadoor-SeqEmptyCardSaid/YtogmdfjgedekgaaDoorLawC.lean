/-
  The frame that the laws over listed variables share: a call that returns true and turns nothing, where the row's condition on what is listed holds, and the world's shape is kept for the library's own variable.
-/
import Derived.Test.YtogmdfjgedekgaaDoorLaw
import Derived.Test.YtogmdfjgedekgaaDoorCards
import Derived.Test.YtogmdfjgedekgaaDoorTie
import Derived.Test.YtogmdfjgedekgaaDoorSeqPart
import Derived.Handed
import Derived.HandedShaped
import Derived.Lay
import Derived.Shelf.Vars
import Derived.Shelf.Lay
import Derived.SevenTiedAt
namespace Go.Proofs.YtogmdfjgedekgaaDoor
open Go.RowKit Go.ChangeShapes Go.WideShapes Go.ChangeAt

/-- What a world of the row gives: the library's one unlisted variable holds some int. -/
theorem mx_of_shaped {W : World} (h : W.ShapedOpen Tryd.prog) : Mx W := by
  exact cell_of_shapedOpen_int (g := 0) (t := 3) (zero := #[.int .i64 0]) h (of_decide_eq_true (by kernel_rfl)) (by kernel_rfl) rfl (by kernel_rfl) (by kernel_rfl) Tryd.underlying3

/-- The wrap: the listed variables' condition and the world's shape are both handed on. -/
theorem lifted_listed {H : Type} {enc : TypeId × Value → H} {C : Checked} {os : Os} {f : FuncId} {fn : Func} {s : ChangeSpec} {X : World → Prop} {v0 : Array Value}
    (hX : ∀ w w' : World, w.heap = w'.heap → X w → X w')
    (own : ownKnob C.prog.godebug = none) (started : os.Started) (noInit : C.prog.inits.idxOf? f = none) (hfn : C.prog.funcs[f]? = some fn)
    (w0 : World) (fuel : Nat) (hos : w0.os = os) (hsh0 : (w0.forCall (fun _ _ => 0) ⟨#[], v0, []⟩).Shaped C.prog)
    (hok : Input.okWideB C.prog (w0.forCall (fun _ _ => 0) ⟨#[], v0, []⟩) f ⟨#[], v0, []⟩ = true)
    (hpre : s.preB enc C.prog fn [] false (w0.forCall (fun _ _ => 0) ⟨#[], v0, []⟩).memory v0 fuel = true)
    (hsz : s.sizedB enc C.prog fn false (w0.forCall (fun _ _ => 0) ⟨#[], v0, []⟩).memory v0 fuel = true)
    (hx : X (w0.forCall (fun _ _ => 0) ⟨#[], v0, []⟩).memory)
    (call : ∀ (W : World) (base : Nat) (args : Array Value) (ds gs : List (DataW H)) (before : List MemPlace),
      (∀ (j : Nat) t v, fn.params[j]? = some t → args[j]? = some v → Value.okWide C.prog W .any base t v) → DataW.Whole enc C.prog fn.params.toList s.vars false W args.toList ds gs before → X W → W.ShapedOpen C.prog →
      Calls C.prog f args W fun e W' => ∃ v, e = .returned v ∧ s.post enc C.prog fn false true false false W args v W') :
    ReturnsInHanded {} C os f .any (fun w args => (s.pre enc C.prog fn [] false w args ∧ X w) ∧ sizedMet enc C.prog fn (OpenSpec.ofChange s) false w args) (s.post enc C.prog fn false true false false) := by
  refine returnsInHanded_of_calls own started noInit (ChangeSpec.witness_shaped (enc := enc) (X := fun w _ => X w) false w0 v0 fuel hos hsh0 hok hpre hsz hx) ?_
  intro w tape i _ hsh _ hok2 hp _
  obtain ⟨_, _, _, g, hg, _, _, _, _, hv⟩ := hok2
  obtain rfl := Option.some.inj (hg.symm.trans hfn)
  obtain ⟨⟨⟨ds, gs, before, hw, _⟩, hxx⟩, _⟩ := hp
  refine (call (w.forCall tape i) w.heap.size i.args ds gs before hv (DataW.Whole.of_heap (by rfl) hw) (hX _ _ (by rfl) hxx) hsh).mono fun e W' ⟨v, he, hq⟩ => ?_
  subst he
  exact ChangeSpec.post_blind hq

end Go.Proofs.YtogmdfjgedekgaaDoor
