/-
  The frame that the store's laws share: from 'the call returns true, and nothing that was there has turned' to what the row asks behind the call; with listed variables. The closed facts of a row, one by one: each a declaration of its own, so that the kernel gives its memory back behind each. The library's table of tens, out of what the row lists.
-/
import Derived.Test.YtnofkliaofgiaaaGreatDoorGA
import Derived.Test.YtnofkliaofgiaaaGreatDoorGVC
import Derived.Test.YtnofkliaofgiaaaGreatDoorRows
import Derived.Test.YtnofkliaofgiaaaGreatDoorCards
import Derived.Test.YtnofkliaofgiaaaGreatDoorTie
import Derived.ProofKit
import Derived.SizedLaws
import Derived.Handed
import Derived.HandedShaped
import Derived.Lay
import Derived.Shelf.Vars
import Derived.Shelf.Lay
import Derived.SevenTiedAt
import Derived.Lib.LaidU8
set_option maxRecDepth 100000
set_option maxHeartbeats 8000000
open Go.Proofs.Tryz
open Bool renaming and_eq_true→PP
open Go renaming ChangeSpec→Pt,FuncId→PR,OpenClaim→Pz,Program→Pv,TypeId→Pa,Value→Oe,World→Oc
open Go.Ending renaming returned→RR
open Go.RowKit renaming Below→Od
open List renaming mem_append_left→PJ,mem_cons_of_mem→OP,mem_cons_self→PV
open Option.some renaming inj→O6
open _root_ renaming List→Ob
namespace Go.Proofs.YtnofkliaofgiaaaGreatDoor
section
open Go.RowKit Go.ChangeShapes Go.WideShapes Go.ChangeAt
theorem Try.own:ownKnob prog.godebug=none:=zQ
theorem Try.laidOut:laidOutB prog=true:=zQ
section
variable {H:Type} {enc:Pa×Oe→H} {P:Pv}
theorem UL (hl:laidOutB P=true){W W':Oc}(hb:Od W W W'):∀{ts:Ob Pa} {vs:Ob Oe} {ds:Ob (DataW H)} {ps:Ob MemPlace},
  (∀t∈ts,P.readableRec t=true∧t < P.types.size)→DataW.TrodAll enc P W 0 (fun _=>true) true ts vs ds ps→(∀x∈ps,x.block < W.heap.size)→
  DataW.TrodAll enc P W' 0 (fun b=>decide (b < W.heap.size)) true ts vs ds ps
 |[],[],[],_,_,h,_=>h
 |_ :: _,_ :: _,_ :: _,_,hr,⟨p,q,h1,h2,hps⟩,hlt=>by
  subst hps
  refine⟨p,q,?_,?_,rfl⟩
  ·obtain⟨a,b⟩:=hr _ (PV ..)
   exact Below.trod hl a b h1 hb (fun x hx=>hlt x (PJ _ hx))
  ·exact UL hl hb (fun t ht=>hr t (OP _ ht)) h2 (fun x hx=>hlt x (List.mem_append_right _ hx))
theorem qW {f:Func}{s:Pt}{apart fresh handsOn:Bool}{W W':Oc}{args:Array Oe}{ds gs:Ob (DataW H)}{before:Ob MemPlace}{tb:Pa}(hl:laidOutB P=true)(hr:(f.params.toList.all fun t=>P.readableRec t && decide (t < P.types.size))=true)(hvars:s.vars=[])(hres:f.resultTypes=#[tb])(htb:P.underlying tb=some .bool)(hW:DataW.Whole enc P f.params.toList s.vars apart W args.toList ds gs before)(hfn:s.fn H (ds++gs)={results:=[.lit (.bool true)],args:=ds})(hb:Od W W W'):s.post enc P f apart fresh handsOn false W args (.bool true) W':=by
 have a:∀p∈before,p.block < W.heap.size:=fun p hp=>hW.lt p hp
 obtain⟨p,q,c,d,b,_,_⟩:=id hW
 refine⟨ds,gs,before,[],p,[],hW,?_,?_,?_,hb.frame _,fun h=>by cases h⟩
 ·rw[hfn,hres]
  exact trodAll_mk1 (shut_bool htb true)
 ·rw[hfn]
  refine UL hl hb (fun t ht=>?_) c (fun x hx=>a x (by rw[b];exact PJ _ hx))
  have h:=List.all_eq_true.1 hr t ht
  rw[PP,decide_eq_true_eq] at h
  exact h
 ·rw[hvars,hfn]
  rfl
end
theorem Uv {H:Type}{enc:Pa×Oe→H}{CC:Checked}{os:Os}{f:PR}{fn:Func}{s:Pt}{X:Oc→Prop}{v0:Array Oe}(hX:∀w w':Oc,w.heap=w'.heap→X w→X w')(own:ownKnob CC.prog.godebug=none)(started:os.Started)(noInit:CC.prog.inits.idxOf? f=none)(hfn:CC.prog.funcs[f]?=some fn)(w0:Oc)(fuel:Nat)(hos:w0.os=os)(hsh0:(w0.forCall (fun _ _=>0) ⟨#[],v0,[]⟩).Shaped CC.prog)(hok:Input.okWideB CC.prog (w0.forCall (fun _ _=>0) ⟨#[],v0,[]⟩) f ⟨#[],v0,[]⟩=true)(hpre:s.preB enc CC.prog fn [] false (w0.forCall (fun _ _=>0) ⟨#[],v0,[]⟩).memory v0 fuel=true)(hsz:s.sizedB enc CC.prog fn false (w0.forCall (fun _ _=>0) ⟨#[],v0,[]⟩).memory v0 fuel=true)(hx:X (w0.forCall (fun _ _=>0) ⟨#[],v0,[]⟩).memory)(call:∀(W:Oc) (base:Nat) (args:Array Oe) (ds gs:Ob (DataW H)) (before:Ob MemPlace),
   (∀(j:Nat) t v,fn.params[j]?=some t→args[j]?=some v→Value.okWide CC.prog W .any base t v)→DataW.Whole enc CC.prog fn.params.toList s.vars false W args.toList ds gs before→
   (DataW.weightsEach CC.prog (fn.params.toList++s.plain.varTypes CC.prog) (ds++gs)).all (·≤reachBytes)=true→X W→W.ShapedOpen CC.prog→
   Calls CC.prog f args W fun e W'=>∃v,e=RR v∧s.post enc CC.prog fn false true false false W args v W') :
  ReturnsInHanded {} CC os f .any (fun w args=>(s.pre enc CC.prog fn [] false w args∧X w)∧sizedMet enc CC.prog fn (OpenSpec.ofChange s) false w args) (s.post enc CC.prog fn false true false false):=by
 refine returnsInHanded_of_calls own started noInit (ChangeSpec.witness_shaped (enc:=enc) (X:=fun w _=>X w) false w0 v0 fuel hos hsh0 hok hpre hsz hx) ?_
 intro w b i _ c _ a l _
 obtain⟨_,_,_,g,k,_,_,_,_,m⟩:=a
 obtain rfl:=O6 (k.symm.trans hfn)
 obtain⟨⟨⟨ds,gs,before,h,_⟩,d⟩,n⟩:=l
 refine(call (w.forCall b i) w.heap.size i.args ds gs before m (DataW.Whole.of_heap zF h) (n.weights h) (hX _ _ zF d) c).mono fun e W' ⟨v,he,hq⟩=>?_
 subst he
 exact ChangeSpec.post_blind hq
theorem VG {a b:Bool}(h:a=true)(k:b=true):(a && b)=true:=by rw[h,k];rfl
def Jn.j0 (_P:Pv)(_f:PR)(_fn:Func)(s:Pt)(c:Pz):Bool:=c.wf (OpenSpec.ofChange s)
def Jn.j1 (P:Pv)(_f:PR)(_fn:Func)(_s:Pt)(_c:Pz):Bool:=laidOutB P
def Jn.j2 (P:Pv)(_f:PR)(_fn:Func)(_s:Pt)(_c:Pz):Bool:=mapsRowed P
def Jn.j3 (P:Pv)(_f:PR)(fn:Func)(_s:Pt)(_c:Pz):Bool:=fn.params.all (P.readableRec ·)
def Jn.j4 (P:Pv)(_f:PR)(_fn:Func)(s:Pt)(c:Pz):Bool:=namedTie P c.named s.vars
def Jn.j5 (_P:Pv)(_f:PR)(_fn:Func)(_s:Pt)(c:Pz):Bool:=(c.stops==[])
def Jn.j6 (P:Pv)(_f:PR)(_fn:Func)(_s:Pt)(_c:Pz):Bool:=(P.stops==[])
def Jn.j7 (_P:Pv)(_f:PR)(_fn:Func)(_s:Pt)(c:Pz):Bool:=(c.knobs==[])
def Jn.j8 (P:Pv)(_f:PR)(_fn:Func)(_s:Pt)(_c:Pz):Bool:=(P.stopKnobs==[])
def Jn.j9 (P:Pv)(f:PR)(_fn:Func)(_s:Pt)(c:Pz):Bool:=(c.inPlace==P.inPlace f)
def Jn.j10 (P:Pv)(f:PR)(_fn:Func)(_s:Pt)(c:Pz):Bool:=(c.unfollowed==P.unfollowed f)
def Jn.j11 (P:Pv)(f:PR)(_fn:Func)(_s:Pt)(c:Pz):Bool:=(c.recurses==P.recurses f)
def Jn.j12 (P:Pv)(f:PR)(_fn:Func)(_s:Pt)(c:Pz):Bool:=(c.named==P.varsNamed f)
def Jn.j13 (P:Pv)(_f:PR)(fn:Func)(s:Pt)(c:Pz):Bool:=(c.maps==(fn.params.toList++s.plain.varTypes P).any (P.mapsRec ·))
def Jn.j14 (P:Pv)(_f:PR)(fn:Func)(s:Pt)(c:Pz):Bool:=(c.ifaces==(fn.params.toList++s.plain.varTypes P).any (P.ifacesRec ·))
def Jn.j15 (P:Pv)(_f:PR)(fn:Func)(_s:Pt)(c:Pz):Bool:=(c.mapsOut==P.mapsAmong fn.resultTypes.toList)
def Jn.j16 (P:Pv)(_f:PR)(fn:Func)(s:Pt)(c:Pz):Bool:=(c.loops==(fn.params.toList++s.plain.varTypes P).any (P.loopsFrom ·))
def Jn.j17 (P:Pv)(_f:PR)(fn:Func)(s:Pt)(c:Pz):Bool:=(c.wideKeys==(fn.params.toList++s.plain.varTypes P++fn.resultTypes.toList).any (P.wideKeysFrom ·))
def Jn.j18 (P:Pv)(_f:PR)(_fn:Func)(s:Pt)(_c:Pz):Bool:=s.vars.all (P.varReadable ·)
def Jn.j19 (P:Pv)(_f:PR)(fn:Func)(_s:Pt)(_c:Pz):Bool:=fn.resultTypes.all (fun t=>P.readableRec t && decide (t < P.types.size))
def Jn.j20 (P:Pv)(_f:PR)(fn:Func)(_s:Pt)(c:Pz):Bool:=(c.ifacesOut==fn.resultTypes.toList.any (P.ifacesRec ·))
def Jn.j21 (P:Pv)(_f:PR)(fn:Func)(_s:Pt)(c:Pz):Bool:=(c.loopsOut==fn.resultTypes.toList.any (P.loopsFrom ·))
def Jn.j22 (P:Pv)(_f:PR)(_fn:Func)(_s:Pt)(c:Pz):Bool:=(c.plainKeys==P.plainKeys)
def Jn.j23 (_P:Pv)(_f:PR)(_fn:Func)(_s:Pt)(c:Pz):Bool:=c.shortTexts.isNone
def Jn.j24 (P:Pv)(_f:PR)(_fn:Func)(_s:Pt)(_c:Pz):Bool:=P.stopsHeard
def Jn.j25 (P:Pv)(_f:PR)(_fn:Func)(_s:Pt)(_c:Pz):Bool:=P.mayEnter
def Jn.j26 (P:Pv)(_f:PR)(_fn:Func)(_s:Pt)(c:Pz):Bool:=(c.lifted==P.liftsFinal)
def Jn.j27 (P:Pv)(_f:PR)(_fn:Func)(_s:Pt)(c:Pz):Bool:=(P.make==some c.make)
def Jn.j28 (P:Pv)(_f:PR)(fn:Func)(_s:Pt)(c:Pz):Bool:=(c.kinds==(if c.domain.isEmpty then [] else fn.params.toList.map fun t=>match P.underlying t with|some (.int k)=>some k|_=>none))
def Jn.j29 (_P:Pv)(_f:PR)(_fn:Func)(_s:Pt)(c:Pz):Bool:=(c.pinned==c.pinnedBy)
def Jn.j30 (P:Pv)(_f:PR)(fn:Func)(s:Pt)(c:Pz):Bool:=(c.veiled==(fn.params.toList++s.plain.varTypes P++fn.resultTypes.toList).any (P.veiledRec ·))
def Jn.j31 (P:Pv)(_f:PR)(fn:Func)(s:Pt)(c:Pz):Bool:=c.veiledFits P fn.params.toList (fn.params.toList++s.plain.varTypes P++fn.resultTypes.toList)
theorem jE {P:Pv}{f:PR}{fn:Func}{s:Pt}{c:Pz}(h0:Jn.j0 P f fn s c=true)(h1:Jn.j1 P f fn s c=true)(h2:Jn.j2 P f fn s c=true)(h3:Jn.j3 P f fn s c=true)(h4:Jn.j4 P f fn s c=true)(h5:Jn.j5 P f fn s c=true)(h6:Jn.j6 P f fn s c=true)(h7:Jn.j7 P f fn s c=true)(h8:Jn.j8 P f fn s c=true)(h9:Jn.j9 P f fn s c=true)(h10:Jn.j10 P f fn s c=true)(h11:Jn.j11 P f fn s c=true)(h12:Jn.j12 P f fn s c=true)(h13:Jn.j13 P f fn s c=true)(h14:Jn.j14 P f fn s c=true)(h15:Jn.j15 P f fn s c=true)(h16:Jn.j16 P f fn s c=true)(h17:Jn.j17 P f fn s c=true)(h18:Jn.j18 P f fn s c=true)(h19:Jn.j19 P f fn s c=true)(h20:Jn.j20 P f fn s c=true)(h21:Jn.j21 P f fn s c=true)(h22:Jn.j22 P f fn s c=true)(h23:Jn.j23 P f fn s c=true)(h24:Jn.j24 P f fn s c=true)(h25:Jn.j25 P f fn s c=true)(h26:Jn.j26 P f fn s c=true)(h27:Jn.j27 P f fn s c=true)(h28:Jn.j28 P f fn s c=true)(h29:Jn.j29 P f fn s c=true)(h30:Jn.j30 P f fn s c=true)(h31:Jn.j31 P f fn s c=true):joinedFacts P f fn s c=true:=
 (VG (VG (VG (VG (VG (VG (VG (VG (VG (VG (VG (VG (VG (VG (VG (VG (VG (VG (VG (VG (VG (VG (VG (VG (VG (VG (VG (VG (VG (VG (VG h0 h1) h2) h3) h4) h5) h6) h7) h8) h9) h10) h11) h12) h13) h14) h15) h16) h17) h18) h19) h20) h21) h22) h23) h24) h25) h26) h27) h28) h29) h30) h31)
end
section
open Go.RowKit
theorem UJ {W : Oc}{l : Ob (String × DataW Unit)}(h : laidMet prog l W)(hm : ("internal/strconv.uint64pow10", Rows.laid_internal_strconv_uint64pow10) ∈ l) : Vm W := by
 obtain⟨g,t,cs,fuel,p,hg,hty,hv,hd⟩:=Lib.laidMet.reads h hm
 have e:(Rows.laid_internal_strconv_uint64pow10:DataW Unit)=Lib.tabData .u64 Lib.pow10Tab:=zQ
 rw[e] at hd
 obtain rfl := O6 ((show prog.globalNamed "internal/strconv.uint64pow10" = some 1 by kernel_rfl).symm.trans hg)
 obtain rfl:=O6 ((show (prog.globals[1]?).map (·.type)=some 311 by kernel_rfl).symm.trans hty)
 unfold Vm Lib.TabIs
 rw[hv,←Lib.cells_of_tab underlying311 underlying253 zQ zQ hd]
end
end Go.Proofs.YtnofkliaofgiaaaGreatDoor
