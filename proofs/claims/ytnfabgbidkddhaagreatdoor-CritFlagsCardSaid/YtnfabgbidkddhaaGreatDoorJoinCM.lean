/-
  The closed facts of a row, one by one: each a declaration of its own, so that the kernel gives its memory back behind each.
-/
import Derived.Test.YtnfabgbidkddhaaGreatDoorLawCM
namespace Go.Proofs.YtnfabgbidkddhaaGreatDoor
open Go.RowKit Go.ChangeShapes Go.WideShapes Go.ChangeAt

theorem and2 {a b : Bool} (h : a = true) (k : b = true) : (a && b) = true := by rw [h, k]; rfl
def Jn.j0 (_P : Program) (_f : FuncId) (_fn : Func) (s : ChangeSpec) (c : OpenClaim) : Bool := c.wf (OpenSpec.ofChange s)
def Jn.j1 (P : Program) (_f : FuncId) (_fn : Func) (_s : ChangeSpec) (_c : OpenClaim) : Bool := laidOutB P
def Jn.j2 (P : Program) (_f : FuncId) (_fn : Func) (_s : ChangeSpec) (_c : OpenClaim) : Bool := mapsRowed P
def Jn.j3 (P : Program) (_f : FuncId) (fn : Func) (_s : ChangeSpec) (_c : OpenClaim) : Bool := fn.params.all (P.readableRec ·)
def Jn.j4 (P : Program) (_f : FuncId) (_fn : Func) (s : ChangeSpec) (c : OpenClaim) : Bool := namedTie P c.named s.vars
def Jn.j5 (_P : Program) (_f : FuncId) (_fn : Func) (_s : ChangeSpec) (c : OpenClaim) : Bool := (c.stops == [])
def Jn.j6 (P : Program) (_f : FuncId) (_fn : Func) (_s : ChangeSpec) (_c : OpenClaim) : Bool := (P.stops == [])
def Jn.j7 (_P : Program) (_f : FuncId) (_fn : Func) (_s : ChangeSpec) (c : OpenClaim) : Bool := (c.knobs == [])
def Jn.j8 (P : Program) (_f : FuncId) (_fn : Func) (_s : ChangeSpec) (_c : OpenClaim) : Bool := (P.stopKnobs == [])
def Jn.j9 (P : Program) (f : FuncId) (_fn : Func) (_s : ChangeSpec) (c : OpenClaim) : Bool := (c.inPlace == P.inPlace f)
def Jn.j10 (P : Program) (f : FuncId) (_fn : Func) (_s : ChangeSpec) (c : OpenClaim) : Bool := (c.unfollowed == P.unfollowed f)
def Jn.j11 (P : Program) (f : FuncId) (_fn : Func) (_s : ChangeSpec) (c : OpenClaim) : Bool := (c.recurses == P.recurses f)
def Jn.j12 (P : Program) (f : FuncId) (_fn : Func) (_s : ChangeSpec) (c : OpenClaim) : Bool := (c.named == P.varsNamed f)
def Jn.j13 (P : Program) (_f : FuncId) (fn : Func) (s : ChangeSpec) (c : OpenClaim) : Bool := (c.maps == (fn.params.toList ++ s.plain.varTypes P).any (P.mapsRec ·))
def Jn.j14 (P : Program) (_f : FuncId) (fn : Func) (s : ChangeSpec) (c : OpenClaim) : Bool := (c.ifaces == (fn.params.toList ++ s.plain.varTypes P).any (P.ifacesRec ·))
def Jn.j15 (P : Program) (_f : FuncId) (fn : Func) (_s : ChangeSpec) (c : OpenClaim) : Bool := (c.mapsOut == P.mapsAmong fn.resultTypes.toList)
def Jn.j16 (P : Program) (_f : FuncId) (fn : Func) (s : ChangeSpec) (c : OpenClaim) : Bool := (c.loops == (fn.params.toList ++ s.plain.varTypes P).any (P.loopsFrom ·))
def Jn.j17 (P : Program) (_f : FuncId) (fn : Func) (s : ChangeSpec) (c : OpenClaim) : Bool := (c.wideKeys == (fn.params.toList ++ s.plain.varTypes P ++ fn.resultTypes.toList).any (P.wideKeysFrom ·))
def Jn.j18 (P : Program) (_f : FuncId) (_fn : Func) (s : ChangeSpec) (_c : OpenClaim) : Bool := s.vars.all (P.varReadable ·)
def Jn.j19 (P : Program) (_f : FuncId) (fn : Func) (_s : ChangeSpec) (_c : OpenClaim) : Bool := fn.resultTypes.all (fun t => P.readableRec t && decide (t < P.types.size))
def Jn.j20 (P : Program) (_f : FuncId) (fn : Func) (_s : ChangeSpec) (c : OpenClaim) : Bool := (c.ifacesOut == fn.resultTypes.toList.any (P.ifacesRec ·))
def Jn.j21 (P : Program) (_f : FuncId) (fn : Func) (_s : ChangeSpec) (c : OpenClaim) : Bool := (c.loopsOut == fn.resultTypes.toList.any (P.loopsFrom ·))
def Jn.j22 (P : Program) (_f : FuncId) (_fn : Func) (_s : ChangeSpec) (c : OpenClaim) : Bool := (c.plainKeys == P.plainKeys)
def Jn.j23 (_P : Program) (_f : FuncId) (_fn : Func) (_s : ChangeSpec) (c : OpenClaim) : Bool := c.shortTexts.isNone
def Jn.j24 (P : Program) (_f : FuncId) (_fn : Func) (_s : ChangeSpec) (_c : OpenClaim) : Bool := P.stopsHeard
def Jn.j25 (P : Program) (_f : FuncId) (_fn : Func) (_s : ChangeSpec) (_c : OpenClaim) : Bool := P.mayEnter
def Jn.j26 (P : Program) (_f : FuncId) (_fn : Func) (_s : ChangeSpec) (c : OpenClaim) : Bool := (c.lifted == P.liftsFinal)
def Jn.j27 (P : Program) (_f : FuncId) (_fn : Func) (_s : ChangeSpec) (c : OpenClaim) : Bool := (P.make == some c.make)
def Jn.j28 (P : Program) (_f : FuncId) (fn : Func) (_s : ChangeSpec) (c : OpenClaim) : Bool := (c.kinds == (if c.domain.isEmpty then [] else fn.params.toList.map fun t => match P.underlying t with | some (.int k) => some k | _ => none))
def Jn.j29 (_P : Program) (_f : FuncId) (_fn : Func) (_s : ChangeSpec) (c : OpenClaim) : Bool := (c.pinned == c.pinnedBy)
def Jn.j30 (P : Program) (_f : FuncId) (fn : Func) (s : ChangeSpec) (c : OpenClaim) : Bool := (c.veiled == (fn.params.toList ++ s.plain.varTypes P ++ fn.resultTypes.toList).any (P.veiledRec ·))
def Jn.j31 (P : Program) (_f : FuncId) (fn : Func) (s : ChangeSpec) (c : OpenClaim) : Bool := c.veiledFits P fn.params.toList (fn.params.toList ++ s.plain.varTypes P ++ fn.resultTypes.toList)
theorem joined_of {P : Program} {f : FuncId} {fn : Func} {s : ChangeSpec} {c : OpenClaim} (h0 : Jn.j0 P f fn s c = true) (h1 : Jn.j1 P f fn s c = true) (h2 : Jn.j2 P f fn s c = true) (h3 : Jn.j3 P f fn s c = true) (h4 : Jn.j4 P f fn s c = true) (h5 : Jn.j5 P f fn s c = true) (h6 : Jn.j6 P f fn s c = true) (h7 : Jn.j7 P f fn s c = true) (h8 : Jn.j8 P f fn s c = true) (h9 : Jn.j9 P f fn s c = true) (h10 : Jn.j10 P f fn s c = true) (h11 : Jn.j11 P f fn s c = true) (h12 : Jn.j12 P f fn s c = true) (h13 : Jn.j13 P f fn s c = true) (h14 : Jn.j14 P f fn s c = true) (h15 : Jn.j15 P f fn s c = true) (h16 : Jn.j16 P f fn s c = true) (h17 : Jn.j17 P f fn s c = true) (h18 : Jn.j18 P f fn s c = true) (h19 : Jn.j19 P f fn s c = true) (h20 : Jn.j20 P f fn s c = true) (h21 : Jn.j21 P f fn s c = true) (h22 : Jn.j22 P f fn s c = true) (h23 : Jn.j23 P f fn s c = true) (h24 : Jn.j24 P f fn s c = true) (h25 : Jn.j25 P f fn s c = true) (h26 : Jn.j26 P f fn s c = true) (h27 : Jn.j27 P f fn s c = true) (h28 : Jn.j28 P f fn s c = true) (h29 : Jn.j29 P f fn s c = true) (h30 : Jn.j30 P f fn s c = true) (h31 : Jn.j31 P f fn s c = true) : joinedFacts P f fn s c = true :=
  (and2 (and2 (and2 (and2 (and2 (and2 (and2 (and2 (and2 (and2 (and2 (and2 (and2 (and2 (and2 (and2 (and2 (and2 (and2 (and2 (and2 (and2 (and2 (and2 (and2 (and2 (and2 (and2 (and2 (and2 (and2 h0 h1) h2) h3) h4) h5) h6) h7) h8) h9) h10) h11) h12) h13) h14) h15) h16) h17) h18) h19) h20) h21) h22) h23) h24) h25) h26) h27) h28) h29) h30) h31)

end Go.Proofs.YtnfabgbidkddhaaGreatDoor
