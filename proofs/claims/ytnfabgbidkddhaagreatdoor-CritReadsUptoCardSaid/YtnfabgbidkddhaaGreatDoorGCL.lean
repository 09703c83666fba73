/-
  The frame that the laws over listed variables share: a call that returns true and turns nothing, where the row's condition on what is listed holds, and the world's shape is kept for the library's own variable.
  The closed facts of a row, one by one: each a declaration of its own, so that the kernel gives its memory back behind each.
  The frame of a law over listed variables whose arguments are bounded by their bulk (the second form).
-/
import Derived.Test.YtnfabgbidkddhaaGreatDoorLawM
import Derived.Test.YtnfabgbidkddhaaGreatDoorGRA
import Derived.Test.YtnfabgbidkddhaaGreatDoorNumsM
import Derived.Test.YtnfabgbidkddhaaGreatDoorCards
import Derived.Test.YtnfabgbidkddhaaGreatDoorTie
import Derived.Handed
import Derived.HandedShaped
import Derived.Lay
import Derived.Shelf.Vars
import Derived.Shelf.Lay
import Derived.SevenTiedAt
import Derived.JoinedCond
namespace Go.Proofs.YtnfabgbidkddhaaGreatDoor
open Go.RowKit Go.ChangeShapes Go.WideShapes Go.ChangeAt

/-- What a world of the row gives: the library's one unlisted variable holds some int. -/
theorem mx_of_shaped {W : World} (h : W.ShapedOpen Tryz.prog) : Mx W := by
  exact cell_of_shapedOpen_int (g := 0) (t := 3) (zero := #[.int .i64 0]) h (of_decide_eq_true (by kernel_rfl)) (by kernel_rfl) rfl (by kernel_rfl) (by kernel_rfl) Tryz.underlying3

theorem wf_u16' {n : Int} (h : (Lit.int .u16 n).wf = true) : ∃ k : Nat, n = k ∧ k ≤ 65535 := by
  simp only [Lit.wf, Bool.and_eq_true, decide_eq_true_eq] at h
  have h1 : (0 : Int) ≤ n := h.1
  have h2 : n ≤ 65535 := h.2
  exact ⟨n.toNat, by omega, by omega⟩

theorem wf_u32' {n : Int} (h : (Lit.int .u32 n).wf = true) : ∃ k : Nat, n = k ∧ k ≤ 4294967295 := by
  simp only [Lit.wf, Bool.and_eq_true, decide_eq_true_eq] at h
  have h1 : (0 : Int) ≤ n := h.1
  have h2 : n ≤ 4294967295 := h.2
  exact ⟨n.toNat, by omega, by omega⟩

theorem wf_i64' {n : Int} (h : (Lit.int .i64 n).wf = true) : -9223372036854775808 ≤ n ∧ n ≤ 9223372036854775807 := by
  simp only [Lit.wf, Bool.and_eq_true, decide_eq_true_eq] at h
  exact h

/-- Five parameters. -/
theorem trodAll_five {H : Type} {enc : TypeId × Value → H} {P : Program} {w : World} {base : Nat} {spare : Nat → Bool} {held : Bool} {t0 t1 t2 t3 t4 : TypeId} {args : Array Value} {ds : List (DataW H)} {ps : List MemPlace}
    (h : DataW.TrodAll enc P w base spare held [t0, t1, t2, t3, t4] args.toList ds ps) :
    ∃ v0 v1 v2 v3 v4 d0 d1 d2 d3 d4 p0 p1 p2 p3 p4, args = #[v0, v1, v2, v3, v4] ∧ ds = [d0, d1, d2, d3, d4] ∧ ps = p0 ++ p1 ++ p2 ++ p3 ++ p4 ∧ DataW.Trod enc P w base spare held t0 v0 d0 p0 ∧ DataW.Trod enc P w base spare held t1 v1 d1 p1 ∧ DataW.Trod enc P w base spare held t2 v2 d2 p2 ∧
      DataW.Trod enc P w base spare held t3 v3 d3 p3 ∧ DataW.Trod enc P w base spare held t4 v4 d4 p4 := by
  obtain ⟨v0, r0, d0, e0, p0, q0, ha, rfl, rfl, h0, k0⟩ := trodAll_cons h
  obtain ⟨v1, r1, d1, e1, p1, q1, rfl, rfl, rfl, h1, k1⟩ := trodAll_cons k0
  obtain ⟨v2, r2, d2, e2, p2, q2, rfl, rfl, rfl, h2, k2⟩ := trodAll_cons k1
  obtain ⟨v3, r3, d3, e3, p3, q3, rfl, rfl, rfl, h3, k3⟩ := trodAll_cons k2
  obtain ⟨v4, r4, d4, e4, p4, q4, rfl, rfl, rfl, h4, k4⟩ := trodAll_cons k3
  obtain ⟨rfl, rfl, rfl⟩ := trodAll_nil k4
  exact ⟨v0, v1, v2, v3, v4, d0, d1, d2, d3, d4, p0, p1, p2, p3, p4, by cases args; simp_all, rfl, by simp, h0, h1, h2, h3, h4⟩

/-- The wrap: the listed variables' condition and the world's shape are both handed on. -/
theorem lifted_listed {H : Type} {enc : TypeId × Value → H} {C : Checked} {os : Os} {f : FuncId} {fn : Func} {s : ChangeSpec} {X : World → Prop} {v0 : Array Value}
    (hX : ∀ w w' : World, w.heap = w'.heap → X w → X w')
    (own : ownKnob C.prog.godebug = none) (started : os.Started) (noInit : C.prog.inits.idxOf? f = none) (hfn : C.prog.funcs[f]? = some fn)
    (w0 : World) (fuel : Nat) (hos : w0.os = os) (hsh0 : (w0.forCall (fun _ _ => 0) ⟨#[], v0, []⟩).Shaped C.prog)
    (hok : Input.okWideB C.prog (w0.forCall (fun _ _ => 0) ⟨#[], v0, []⟩) f ⟨#[], v0, []⟩ = true)
    (hpre : s.preB enc C.prog fn [] false (w0.forCall (fun _ _ => 0) ⟨#[], v0, []⟩).memory v0 fuel = true)
    (hsz : s.sizedB enc C.prog fn false (w0.forCall (fun _ _ => 0) ⟨#[], v0, []⟩).memory v0 fuel = true)
    (hx : X (w0.forCall (fun _ _ => 0) ⟨#[], v0, []⟩).memory)
    (call : ∀ (W : World) (base : Nat) (args : Array Value) (ds gs : List (DataW H)) (before : List MemPlace),
      (∀ (j : Nat) t v, fn.params[j]? = some t → args[j]? = some v → Value.okWide C.prog W .any base t v) → DataW.Whole enc C.prog fn.params.toList s.vars false W args.toList ds gs before →
      (DataW.weightsEach C.prog (fn.params.toList ++ s.plain.varTypes C.prog) (ds ++ gs)).all (· ≤ reachBytes) = true → X W → W.ShapedOpen C.prog →
      Calls C.prog f args W fun e W' => ∃ v, e = .returned v ∧ s.post enc C.prog fn false true false false W args v W') :
    ReturnsInHanded {} C os f .any (fun w args => (s.pre enc C.prog fn [] false w args ∧ X w) ∧ sizedMet enc C.prog fn (OpenSpec.ofChange s) false w args) (s.post enc C.prog fn false true false false) := by
  refine returnsInHanded_of_calls own started noInit (ChangeSpec.witness_shaped (enc := enc) (X := fun w _ => X w) false w0 v0 fuel hos hsh0 hok hpre hsz hx) ?_
  intro w tape i _ hsh _ hok2 hp _
  obtain ⟨_, _, _, g, hg, _, _, _, _, hv⟩ := hok2
  obtain rfl := Option.some.inj (hg.symm.trans hfn)
  obtain ⟨⟨⟨ds, gs, before, hw, _⟩, hxx⟩, hz⟩ := hp
  refine (call (w.forCall tape i) w.heap.size i.args ds gs before hv (DataW.Whole.of_heap (by rfl) hw) (hz.weights hw) (hX _ _ (by rfl) hxx) hsh).mono fun e W' ⟨v, he, hq⟩ => ?_
  subst he
  exact ChangeSpec.post_blind hq

end Go.Proofs.YtnfabgbidkddhaaGreatDoor

namespace Go.Proofs.YtnfabgbidkddhaaGreatDoor
open Go.RowKit Go.ChangeShapes Go.WideShapes Go.ChangeAt

theorem and2 {a b : Bool} (h : a = true) (k : b = true) : (a && b) = true := by rw [h, k]; rfl
def Jn.j0 (_P : Program) (_f : FuncId) (_fn : Func) (s : ChangeSpec) (c : OpenClaim) : Bool := c.wf (OpenSpec.ofChange s)
def Jn.j1 (P : Program) (_f : FuncId) (_fn : Func) (_s : ChangeSpec) (_c : OpenClaim) : Bool := laidOutB P
def Jn.j2 (P : Program) (_f : FuncId) (_fn : Func) (_s : ChangeSpec) (_c : OpenClaim) : Bool := mapsRowed P
def Jn.j3 (P : Program) (_f : FuncId) (fn : Func) (_s : ChangeSpec) (_c : OpenClaim) : Bool := fn.params.all (P.readableRec ·)
def Jn.j4 (P : Program) (_f : FuncId) (_fn : Func) (s : ChangeSpec) (c : OpenClaim) : Bool := namedTie P c.named s.vars
def Jn.j5 (_P : Program) (_f : FuncId) (_fn : Func) (_s : ChangeSpec) (c : OpenClaim) : Bool := (c.stops == [])
def Jn.j6 (P : Program) (_f : FuncId) (_fn : Func) (_s : ChangeSpec) (_c : OpenClaim) : Bool := (P.stops == [])
def Jn.j7 (_P : Program) (_f : FuncId) (_fn : Func) (_s : ChangeSpec) (c : OpenClaim) : Bool := (c.knobs == [])
def Jn.j8 (P : Program) (_f : FuncId) (_fn : Func) (_s : ChangeSpec) (_c : OpenClaim) : Bool := (P.stopKnobs == [])
def Jn.j9 (P : Program) (f : FuncId) (_fn : Func) (_s : ChangeSpec) (c : OpenClaim) : Bool := (c.inPlace == P.inPlace f)
def Jn.j10 (P : Program) (f : FuncId) (_fn : Func) (_s : ChangeSpec) (c : OpenClaim) : Bool := (c.unfollowed == P.unfollowed f)
def Jn.j11 (P : Program) (f : FuncId) (_fn : Func) (_s : ChangeSpec) (c : OpenClaim) : Bool := (c.recurses == P.recurses f)
def Jn.j12 (P : Program) (f : FuncId) (_fn : Func) (_s : ChangeSpec) (c : OpenClaim) : Bool := (c.named == P.varsNamed f)
def Jn.j13 (P : Program) (_f : FuncId) (fn : Func) (s : ChangeSpec) (c : OpenClaim) : Bool := (c.maps == (fn.params.toList ++ s.plain.varTypes P).any (P.mapsRec ·))
def Jn.j14 (P : Program) (_f : FuncId) (fn : Func) (s : ChangeSpec) (c : OpenClaim) : Bool := (c.ifaces == (fn.params.toList ++ s.plain.varTypes P).any (P.ifacesRec ·))
def Jn.j15 (P : Program) (_f : FuncId) (fn : Func) (_s : ChangeSpec) (c : OpenClaim) : Bool := (c.mapsOut == P.mapsAmong fn.resultTypes.toList)
def Jn.j16 (P : Program) (_f : FuncId) (fn : Func) (s : ChangeSpec) (c : OpenClaim) : Bool := (c.loops == (fn.params.toList ++ s.plain.varTypes P).any (P.loopsFrom ·))
def Jn.j17 (P : Program) (_f : FuncId) (fn : Func) (s : ChangeSpec) (c : OpenClaim) : Bool := (c.wideKeys == (fn.params.toList ++ s.plain.varTypes P ++ fn.resultTypes.toList).any (P.wideKeysFrom ·))
def Jn.j18 (P : Program) (_f : FuncId) (_fn : Func) (s : ChangeSpec) (_c : OpenClaim) : Bool := s.vars.all (P.varReadable ·)
def Jn.j19 (P : Program) (_f : FuncId) (fn : Func) (_s : ChangeSpec) (_c : OpenClaim) : Bool := fn.resultTypes.all (fun t => P.readableRec t && decide (t < P.types.size))
def Jn.j20 (P : Program) (_f : FuncId) (fn : Func) (_s : ChangeSpec) (c : OpenClaim) : Bool := (c.ifacesOut == fn.resultTypes.toList.any (P.ifacesRec ·))
def Jn.j21 (P : Program) (_f : FuncId) (fn : Func) (_s : ChangeSpec) (c : OpenClaim) : Bool := (c.loopsOut == fn.resultTypes.toList.any (P.loopsFrom ·))
def Jn.j22 (P : Program) (_f : FuncId) (_fn : Func) (_s : ChangeSpec) (c : OpenClaim) : Bool := (c.plainKeys == P.plainKeys)
def Jn.j23 (_P : Program) (_f : FuncId) (_fn : Func) (_s : ChangeSpec) (c : OpenClaim) : Bool := c.shortTexts.isNone
def Jn.j24 (P : Program) (_f : FuncId) (_fn : Func) (_s : ChangeSpec) (_c : OpenClaim) : Bool := P.stopsHeard
def Jn.j25 (P : Program) (_f : FuncId) (_fn : Func) (_s : ChangeSpec) (_c : OpenClaim) : Bool := P.mayEnter
def Jn.j26 (P : Program) (_f : FuncId) (_fn : Func) (_s : ChangeSpec) (c : OpenClaim) : Bool := (c.lifted == P.liftsFinal)
def Jn.j27 (P : Program) (_f : FuncId) (_fn : Func) (_s : ChangeSpec) (c : OpenClaim) : Bool := (P.make == some c.make)
def Jn.j28 (P : Program) (_f : FuncId) (fn : Func) (_s : ChangeSpec) (c : OpenClaim) : Bool := (c.kinds == (if c.domain.isEmpty then [] else fn.params.toList.map fun t => match P.underlying t with | some (.int k) => some k | _ => none))
def Jn.j29 (_P : Program) (_f : FuncId) (_fn : Func) (_s : ChangeSpec) (c : OpenClaim) : Bool := (c.pinned == c.pinnedBy)
def Jn.j30 (P : Program) (_f : FuncId) (fn : Func) (s : ChangeSpec) (c : OpenClaim) : Bool := (c.veiled == (fn.params.toList ++ s.plain.varTypes P ++ fn.resultTypes.toList).any (P.veiledRec ·))
def Jn.j31 (P : Program) (_f : FuncId) (fn : Func) (s : ChangeSpec) (c : OpenClaim) : Bool := c.veiledFits P fn.params.toList (fn.params.toList ++ s.plain.varTypes P ++ fn.resultTypes.toList)
theorem joined_of {P : Program} {f : FuncId} {fn : Func} {s : ChangeSpec} {c : OpenClaim} (h0 : Jn.j0 P f fn s c = true) (h1 : Jn.j1 P f fn s c = true) (h2 : Jn.j2 P f fn s c = true) (h3 : Jn.j3 P f fn s c = true) (h4 : Jn.j4 P f fn s c = true) (h5 : Jn.j5 P f fn s c = true) (h6 : Jn.j6 P f fn s c = true) (h7 : Jn.j7 P f fn s c = true) (h8 : Jn.j8 P f fn s c = true) (h9 : Jn.j9 P f fn s c = true) (h10 : Jn.j10 P f fn s c = true) (h11 : Jn.j11 P f fn s c = true) (h12 : Jn.j12 P f fn s c = true) (h13 : Jn.j13 P f fn s c = true) (h14 : Jn.j14 P f fn s c = true) (h15 : Jn.j15 P f fn s c = true) (h16 : Jn.j16 P f fn s c = true) (h17 : Jn.j17 P f fn s c = true) (h18 : Jn.j18 P f fn s c = true) (h19 : Jn.j19 P f fn s c = true) (h20 : Jn.j20 P f fn s c = true) (h21 : Jn.j21 P f fn s c = true) (h22 : Jn.j22 P f fn s c = true) (h23 : Jn.j23 P f fn s c = true) (h24 : Jn.j24 P f fn s c = true) (h25 : Jn.j25 P f fn s c = true) (h26 : Jn.j26 P f fn s c = true) (h27 : Jn.j27 P f fn s c = true) (h28 : Jn.j28 P f fn s c = true) (h29 : Jn.j29 P f fn s c = true) (h30 : Jn.j30 P f fn s c = true) (h31 : Jn.j31 P f fn s c = true) : joinedFacts P f fn s c = true :=
  (and2 (and2 (and2 (and2 (and2 (and2 (and2 (and2 (and2 (and2 (and2 (and2 (and2 (and2 (and2 (and2 (and2 (and2 (and2 (and2 (and2 (and2 (and2 (and2 (and2 (and2 (and2 (and2 (and2 (and2 (and2 h0 h1) h2) h3) h4) h5) h6) h7) h8) h9) h10) h11) h12) h13) h14) h15) h16) h17) h18) h19) h20) h21) h22) h23) h24) h25) h26) h27) h28) h29) h30) h31)

end Go.Proofs.YtnfabgbidkddhaaGreatDoor

namespace Go.Proofs.YtnfabgbidkddhaaGreatDoor
open Go.RowKit Go.ChangeShapes Go.WideShapes Go.ChangeAt

/-- The wrap: as lifted_listed, with a condition of the specification's own. -/
theorem lifted_listedU {H : Type} {enc : TypeId × Value → H} {C : Checked} {os : Os} {f : FuncId} {fn : Func} {s : ChangeSpec} {k : (H : Type) → List (DataW H) → Bool} {X : World → Prop} {v0 : Array Value}
    (hX : ∀ w w' : World, w.heap = w'.heap → X w → X w')
    (own : ownKnob C.prog.godebug = none) (started : os.Started) (noInit : C.prog.inits.idxOf? f = none) (hfn : C.prog.funcs[f]? = some fn)
    (w0 : World) (fuel : Nat) (hos : w0.os = os) (hsh0 : (w0.forCall (fun _ _ => 0) ⟨#[], v0, []⟩).Shaped C.prog)
    (hok : Input.okWideB C.prog (w0.forCall (fun _ _ => 0) ⟨#[], v0, []⟩) f ⟨#[], v0, []⟩ = true)
    (hpre : s.preB enc C.prog fn [] false (w0.forCall (fun _ _ => 0) ⟨#[], v0, []⟩).memory v0 fuel = true)
    (hk0 : ((DataW.whole enc C.prog (w0.forCall (fun _ _ => 0) ⟨#[], v0, []⟩).memory fn.params.toList s.vars false v0.toList fuel).map fun x => k H (x.1 ++ x.2.1)) = some true)
    (hsz : s.sizedB enc C.prog fn false (w0.forCall (fun _ _ => 0) ⟨#[], v0, []⟩).memory v0 fuel = true)
    (hx : X (w0.forCall (fun _ _ => 0) ⟨#[], v0, []⟩).memory)
    (call : ∀ (W : World) (base : Nat) (args : Array Value) (ds gs : List (DataW H)) (before : List MemPlace),
      (∀ (j : Nat) t v, fn.params[j]? = some t → args[j]? = some v → Value.okWide C.prog W .any base t v) → DataW.Whole enc C.prog fn.params.toList s.vars false W args.toList ds gs before →
      k H (ds ++ gs) = true → X W → W.ShapedOpen C.prog →
      Calls C.prog f args W fun e W' => ∃ v, e = .returned v ∧ s.post enc C.prog fn false true false false W args v W') :
    ReturnsInHanded {} C os f .any (fun w args => (({ OpenSpec.ofChange s with cond := some k } : OpenSpec).pre enc C.prog fn [] false w args ∧ X w) ∧ sizedMet enc C.prog fn { OpenSpec.ofChange s with cond := some k } false w args) (s.post enc C.prog fn false true false false) := by
  have hwit : ({ OpenSpec.ofChange s with cond := some k } : OpenSpec).pre enc C.prog fn [] false (w0.forCall (fun _ _ => 0) ⟨#[], v0, []⟩).memory v0 := by
    rw [Option.map_eq_some_iff] at hk0
    obtain ⟨x, h1, h2⟩ := hk0
    exact ⟨x.1, x.2.1, x.2.2, DataW.Whole_of_whole h1, rfl, h2⟩
  refine returnsInHanded_of_calls own started noInit ?_ ?_
  · obtain ⟨w, tape, i, a1, a2, a3, a4, ⟨⟨_, a5, a6⟩, a7⟩, a8⟩ := ChangeSpec.witness_shaped (enc := enc) (X := fun w a => ({ OpenSpec.ofChange s with cond := some k } : OpenSpec).pre enc C.prog fn [] false w a ∧ X w) false w0 v0 fuel hos hsh0 hok hpre hsz ⟨hwit, hx⟩
    exact ⟨w, tape, i, a1, a2, a3, a4, ⟨⟨a5, a6⟩, a7⟩, a8⟩
  · intro w tape i _ hsh _ hok2 hp _
    obtain ⟨_, _, _, g, hg, _, _, _, _, hv⟩ := hok2
    obtain rfl := Option.some.inj (hg.symm.trans hfn)
    obtain ⟨⟨⟨ds, gs, before, hw, _, hkk⟩, hxx⟩, _⟩ := hp
    refine (call (w.forCall tape i) w.heap.size i.args ds gs before hv (DataW.Whole.of_heap (by rfl) hw) hkk (hX _ _ (by rfl) hxx) hsh).mono fun e W' ⟨v, he, hq⟩ => ?_
    subst he
    exact ChangeSpec.post_blind hq

end Go.Proofs.YtnfabgbidkddhaaGreatDoor
