/-
  The frame that the store's laws share: from 'the call returns true, and nothing that was there has turned' to what the row asks behind the call; with listed variables. Six arguments. The closed facts of a row, one by one: each a declaration of its own, so that the kernel gives its memory back behind each.
-/
import Derived.Test.YtfhlhdmhgheonaaGreatDoorGA
import Derived.Test.YtfhlhdmhgheonaaGreatDoorRows
import Derived.Test.YtfhlhdmhgheonaaGreatDoorCards
import Derived.Test.YtfhlhdmhgheonaaGreatDoorTie
import Derived.ProofKit
import Derived.SizedLaws
import Derived.Handed
import Derived.HandedShaped
import Derived.Lay
import Derived.Shelf.Vars
import Derived.Shelf.Lay
import Derived.SevenTiedAt
set_option maxRecDepth 100000
set_option maxHeartbeats 8000000
namespace Go.Proofs.YtfhlhdmhgheonaaGreatDoor
open Go.RowKit Go.ChangeShapes Go.WideShapes Go.ChangeAt
theorem Try.own:ownKnob Tryz.prog.godebug=none:=by kernel_rfl
theorem Try.laidOut:laidOutB Tryz.prog=true:=by kernel_rfl
section
variable {H:Type} {enc:TypeId×Value→H} {P:Program}
theorem Y8 (hl:laidOutB P=true){W W':World}(hb:Below W.heap.size W W'):∀{ts:List TypeId} {vs:List Value} {ds:List (DataW H)} {ps:List MemPlace},
  (∀t∈ts,P.readableRec t=true∧t < P.types.size)→DataW.TrodAll enc P W 0 (fun _=>true) true ts vs ds ps→(∀x∈ps,x.block < W.heap.size)→
  DataW.TrodAll enc P W' 0 (fun b=>decide (b < W.heap.size)) true ts vs ds ps
 |[],[],[],_,_,h,_=>h
 |_ :: _,_ :: _,_ :: _,_,hr,⟨p,q,h1,h2,hps⟩,hlt=>by
  subst hps
  refine⟨p,q,?_,?_,rfl⟩
  ·obtain⟨a,b⟩:=hr _ (List.mem_cons_self ..)
   exact Below.trod hl a b h1 hb (fun x hx=>hlt x (List.mem_append_left _ hx))
  ·exact Y8 hl hb (fun t ht=>hr t (List.mem_cons_of_mem _ ht)) h2 (fun x hx=>hlt x (List.mem_append_right _ hx))
theorem zaT {f:Func}{s:ChangeSpec}{apart fresh handsOn:Bool}{W W':World}{args:Array Value}{ds gs:List (DataW H)}{before:List MemPlace}{tb:TypeId}(hl:laidOutB P=true)(hr:(f.params.toList.all fun t=>P.readableRec t && decide (t < P.types.size))=true)(hvars:s.vars=[])(hres:f.resultTypes=#[tb])(htb:P.underlying tb=some .bool)(hW:DataW.Whole enc P f.params.toList s.vars apart W args.toList ds gs before)(hfn:s.fn H (ds++gs)={results:=[.lit (.bool true)],args:=ds})(hb:Below W.heap.size W W'):s.post enc P f apart fresh handsOn false W args (.bool true) W':=by
 have a:∀p∈before,p.block < W.heap.size:=fun p hp=>hW.lt p hp
 obtain⟨p,q,c,d,b,_,_⟩:=id hW
 refine⟨ds,gs,before,[],p,[],hW,?_,?_,?_,hb.frame _,fun h=>by cases h⟩
 ·rw[hfn,hres]
  exact trodAll_mk1 (shut_bool htb true)
 ·rw[hfn]
  refine Y8 hl hb (fun t ht=>?_) c (fun x hx=>a x (by rw[b];exact List.mem_append_left _ hx))
  have h:=List.all_eq_true.1 hr t ht
  rw[Bool.and_eq_true,decide_eq_true_eq] at h
  exact h
 ·rw[hvars,hfn]
  rfl
end
theorem JU {n:Int}(h:(Lit.int .u8 n).wf=true):∃k:Nat,n=k∧k≤255:=by
 simp only[Lit.wf,Bool.and_eq_true,decide_eq_true_eq] at h
 have a:(0:Int)≤n:=h.1
 have b:n≤255:=h.2
 exact⟨n.toNat,by omega,by omega⟩
theorem Y7 {H:Type}{enc:TypeId×Value→H}{C:Checked}{os:Os}{f:FuncId}{fn:Func}{s:ChangeSpec}{X:World→Prop}{v0:Array Value}(hX:∀w w':World,w.heap=w'.heap→X w→X w')(own:ownKnob C.prog.godebug=none)(started:os.Started)(noInit:C.prog.inits.idxOf? f=none)(hfn:C.prog.funcs[f]?=some fn)(w0:World)(fuel:Nat)(hos:w0.os=os)(hsh0:(w0.forCall (fun _ _=>0) ⟨#[],v0,[]⟩).Shaped C.prog)(hok:Input.okWideB C.prog (w0.forCall (fun _ _=>0) ⟨#[],v0,[]⟩) f ⟨#[],v0,[]⟩=true)(hpre:s.preB enc C.prog fn [] false (w0.forCall (fun _ _=>0) ⟨#[],v0,[]⟩).memory v0 fuel=true)(hsz:s.sizedB enc C.prog fn false (w0.forCall (fun _ _=>0) ⟨#[],v0,[]⟩).memory v0 fuel=true)(hx:X (w0.forCall (fun _ _=>0) ⟨#[],v0,[]⟩).memory)(call:∀(W:World) (base:Nat) (args:Array Value) (ds gs:List (DataW H)) (before:List MemPlace),
   (∀(j:Nat) t v,fn.params[j]?=some t→args[j]?=some v→Value.okWide C.prog W .any base t v)→DataW.Whole enc C.prog fn.params.toList s.vars false W args.toList ds gs before→
   (DataW.weightsEach C.prog (fn.params.toList++s.plain.varTypes C.prog) (ds++gs)).all (·≤reachBytes)=true→X W→W.ShapedOpen C.prog→
   Calls C.prog f args W fun e W'=>∃v,e=.returned v∧s.post enc C.prog fn false true false false W args v W') :
  ReturnsInHanded {} C os f .any (fun w args=>(s.pre enc C.prog fn [] false w args∧X w)∧sizedMet enc C.prog fn (OpenSpec.ofChange s) false w args) (s.post enc C.prog fn false true false false):=by
 refine returnsInHanded_of_calls own started noInit (ChangeSpec.witness_shaped (enc:=enc) (X:=fun w _=>X w) false w0 v0 fuel hos hsh0 hok hpre hsz hx) ?_
 intro w a i _ c _ b k _
 obtain⟨_,_,_,g,l,_,_,_,_,m⟩:=b
 obtain rfl:=Option.some.inj (l.symm.trans hfn)
 obtain⟨⟨⟨ds,gs,before,h,_⟩,d⟩,n⟩:=k
 refine(call (w.forCall a i) w.heap.size i.args ds gs before m (DataW.Whole.of_heap (by rfl) h) (n.weights h) (hX _ _ (by rfl) d) c).mono fun e W' ⟨v,he,hq⟩=>?_
 subst he
 exact ChangeSpec.post_blind hq
theorem zaB {H:Type}{enc:TypeId×Value→H}{P:Program}{w:World}{base:Nat}{spare:Nat→Bool}{held:Bool}{t0 t1 t2 t3 t4 t5:TypeId}{args:Array Value}{ds:List (DataW H)}{ps:List MemPlace}(h:DataW.TrodAll enc P w base spare held [t0,t1,t2,t3,t4,t5] args.toList ds ps) :
  ∃v0 v1 v2 v3 v4 v5 d0 d1 d2 d3 d4 d5 p0 p1 p2 p3 p4 p5,args=#[v0,v1,v2,v3,v4,v5]∧ds=[d0,d1,d2,d3,d4,d5]∧ps=p0++p1++p2++p3++p4++p5∧DataW.Trod enc P w base spare held t0 v0 d0 p0∧DataW.Trod enc P w base spare held t1 v1 d1 p1∧DataW.Trod enc P w base spare held t2 v2 d2 p2∧
   DataW.Trod enc P w base spare held t3 v3 d3 p3∧DataW.Trod enc P w base spare held t4 v4 d4 p4∧DataW.Trod enc P w base spare held t5 v5 d5 p5:=by
 obtain⟨v0,n,d0,o,p0,p,q,rfl,rfl,a,b⟩:=trodAll_cons h
 obtain⟨v1,r,d1,s,p1,t,rfl,rfl,rfl,c,d⟩:=trodAll_cons b
 obtain⟨v2,u,d2,v,p2,x,rfl,rfl,rfl,e,f⟩:=trodAll_cons d
 obtain⟨v3,y,d3,z,p3,A,rfl,rfl,rfl,g,i⟩:=trodAll_cons f
 obtain⟨v4,B,d4,C,p4,D,rfl,rfl,rfl,j,k⟩:=trodAll_cons i
 obtain⟨v5,E,d5,F,p5,G,rfl,rfl,rfl,l,m⟩:=trodAll_cons k
 obtain⟨rfl,rfl,rfl⟩:=trodAll_nil m
 exact⟨v0,v1,v2,v3,v4,v5,d0,d1,d2,d3,d4,d5,p0,p1,p2,p3,p4,p5,by cases args;simp_all,rfl,by simp,a,c,e,g,j,l⟩
theorem YN {a b:Bool}(h:a=true)(k:b=true):(a && b)=true:=by rw[h,k];rfl
def Jn.j0 (_P:Program)(_f:FuncId)(_fn:Func)(s:ChangeSpec)(c:OpenClaim):Bool:=c.wf (OpenSpec.ofChange s)
def Jn.j1 (P:Program)(_f:FuncId)(_fn:Func)(_s:ChangeSpec)(_c:OpenClaim):Bool:=laidOutB P
def Jn.j2 (P:Program)(_f:FuncId)(_fn:Func)(_s:ChangeSpec)(_c:OpenClaim):Bool:=mapsRowed P
def Jn.j3 (P:Program)(_f:FuncId)(fn:Func)(_s:ChangeSpec)(_c:OpenClaim):Bool:=fn.params.all (P.readableRec ·)
def Jn.j4 (P:Program)(_f:FuncId)(_fn:Func)(s:ChangeSpec)(c:OpenClaim):Bool:=namedTie P c.named s.vars
def Jn.j5 (_P:Program)(_f:FuncId)(_fn:Func)(_s:ChangeSpec)(c:OpenClaim):Bool:=(c.stops==[])
def Jn.j6 (P:Program)(_f:FuncId)(_fn:Func)(_s:ChangeSpec)(_c:OpenClaim):Bool:=(P.stops==[])
def Jn.j7 (_P:Program)(_f:FuncId)(_fn:Func)(_s:ChangeSpec)(c:OpenClaim):Bool:=(c.knobs==[])
def Jn.j8 (P:Program)(_f:FuncId)(_fn:Func)(_s:ChangeSpec)(_c:OpenClaim):Bool:=(P.stopKnobs==[])
def Jn.j9 (P:Program)(f:FuncId)(_fn:Func)(_s:ChangeSpec)(c:OpenClaim):Bool:=(c.inPlace==P.inPlace f)
def Jn.j10 (P:Program)(f:FuncId)(_fn:Func)(_s:ChangeSpec)(c:OpenClaim):Bool:=(c.unfollowed==P.unfollowed f)
def Jn.j11 (P:Program)(f:FuncId)(_fn:Func)(_s:ChangeSpec)(c:OpenClaim):Bool:=(c.recurses==P.recurses f)
def Jn.j12 (P:Program)(f:FuncId)(_fn:Func)(_s:ChangeSpec)(c:OpenClaim):Bool:=(c.named==P.varsNamed f)
def Jn.j13 (P:Program)(_f:FuncId)(fn:Func)(s:ChangeSpec)(c:OpenClaim):Bool:=(c.maps==(fn.params.toList++s.plain.varTypes P).any (P.mapsRec ·))
def Jn.j14 (P:Program)(_f:FuncId)(fn:Func)(s:ChangeSpec)(c:OpenClaim):Bool:=(c.ifaces==(fn.params.toList++s.plain.varTypes P).any (P.ifacesRec ·))
def Jn.j15 (P:Program)(_f:FuncId)(fn:Func)(_s:ChangeSpec)(c:OpenClaim):Bool:=(c.mapsOut==P.mapsAmong fn.resultTypes.toList)
def Jn.j16 (P:Program)(_f:FuncId)(fn:Func)(s:ChangeSpec)(c:OpenClaim):Bool:=(c.loops==(fn.params.toList++s.plain.varTypes P).any (P.loopsFrom ·))
def Jn.j17 (P:Program)(_f:FuncId)(fn:Func)(s:ChangeSpec)(c:OpenClaim):Bool:=(c.wideKeys==(fn.params.toList++s.plain.varTypes P++fn.resultTypes.toList).any (P.wideKeysFrom ·))
def Jn.j18 (P:Program)(_f:FuncId)(_fn:Func)(s:ChangeSpec)(_c:OpenClaim):Bool:=s.vars.all (P.varReadable ·)
def Jn.j19 (P:Program)(_f:FuncId)(fn:Func)(_s:ChangeSpec)(_c:OpenClaim):Bool:=fn.resultTypes.all (fun t=>P.readableRec t && decide (t < P.types.size))
def Jn.j20 (P:Program)(_f:FuncId)(fn:Func)(_s:ChangeSpec)(c:OpenClaim):Bool:=(c.ifacesOut==fn.resultTypes.toList.any (P.ifacesRec ·))
def Jn.j21 (P:Program)(_f:FuncId)(fn:Func)(_s:ChangeSpec)(c:OpenClaim):Bool:=(c.loopsOut==fn.resultTypes.toList.any (P.loopsFrom ·))
def Jn.j22 (P:Program)(_f:FuncId)(_fn:Func)(_s:ChangeSpec)(c:OpenClaim):Bool:=(c.plainKeys==P.plainKeys)
def Jn.j23 (_P:Program)(_f:FuncId)(_fn:Func)(_s:ChangeSpec)(c:OpenClaim):Bool:=c.shortTexts.isNone
def Jn.j24 (P:Program)(_f:FuncId)(_fn:Func)(_s:ChangeSpec)(_c:OpenClaim):Bool:=P.stopsHeard
def Jn.j25 (P:Program)(_f:FuncId)(_fn:Func)(_s:ChangeSpec)(_c:OpenClaim):Bool:=P.mayEnter
def Jn.j26 (P:Program)(_f:FuncId)(_fn:Func)(_s:ChangeSpec)(c:OpenClaim):Bool:=(c.lifted==P.liftsFinal)
def Jn.j27 (P:Program)(_f:FuncId)(_fn:Func)(_s:ChangeSpec)(c:OpenClaim):Bool:=(P.make==some c.make)
def Jn.j28 (P:Program)(_f:FuncId)(fn:Func)(_s:ChangeSpec)(c:OpenClaim):Bool:=(c.kinds==(if c.domain.isEmpty then [] else fn.params.toList.map fun t=>match P.underlying t with|some (.int k)=>some k|_=>none))
def Jn.j29 (_P:Program)(_f:FuncId)(_fn:Func)(_s:ChangeSpec)(c:OpenClaim):Bool:=(c.pinned==c.pinnedBy)
def Jn.j30 (P:Program)(_f:FuncId)(fn:Func)(s:ChangeSpec)(c:OpenClaim):Bool:=(c.veiled==(fn.params.toList++s.plain.varTypes P++fn.resultTypes.toList).any (P.veiledRec ·))
def Jn.j31 (P:Program)(_f:FuncId)(fn:Func)(s:ChangeSpec)(c:OpenClaim):Bool:=c.veiledFits P fn.params.toList (fn.params.toList++s.plain.varTypes P++fn.resultTypes.toList)
theorem JY {P:Program}{f:FuncId}{fn:Func}{s:ChangeSpec}{c:OpenClaim}(h0:Jn.j0 P f fn s c=true)(h1:Jn.j1 P f fn s c=true)(h2:Jn.j2 P f fn s c=true)(h3:Jn.j3 P f fn s c=true)(h4:Jn.j4 P f fn s c=true)(h5:Jn.j5 P f fn s c=true)(h6:Jn.j6 P f fn s c=true)(h7:Jn.j7 P f fn s c=true)(h8:Jn.j8 P f fn s c=true)(h9:Jn.j9 P f fn s c=true)(h10:Jn.j10 P f fn s c=true)(h11:Jn.j11 P f fn s c=true)(h12:Jn.j12 P f fn s c=true)(h13:Jn.j13 P f fn s c=true)(h14:Jn.j14 P f fn s c=true)(h15:Jn.j15 P f fn s c=true)(h16:Jn.j16 P f fn s c=true)(h17:Jn.j17 P f fn s c=true)(h18:Jn.j18 P f fn s c=true)(h19:Jn.j19 P f fn s c=true)(h20:Jn.j20 P f fn s c=true)(h21:Jn.j21 P f fn s c=true)(h22:Jn.j22 P f fn s c=true)(h23:Jn.j23 P f fn s c=true)(h24:Jn.j24 P f fn s c=true)(h25:Jn.j25 P f fn s c=true)(h26:Jn.j26 P f fn s c=true)(h27:Jn.j27 P f fn s c=true)(h28:Jn.j28 P f fn s c=true)(h29:Jn.j29 P f fn s c=true)(h30:Jn.j30 P f fn s c=true)(h31:Jn.j31 P f fn s c=true):joinedFacts P f fn s c=true:=
 (YN (YN (YN (YN (YN (YN (YN (YN (YN (YN (YN (YN (YN (YN (YN (YN (YN (YN (YN (YN (YN (YN (YN (YN (YN (YN (YN (YN (YN (YN (YN h0 h1) h2) h3) h4) h5) h6) h7) h8) h9) h10) h11) h12) h13) h14) h15) h16) h17) h18) h19) h20) h21) h22) h23) h24) h25) h26) h27) h28) h29) h30) h31)
end Go.Proofs.YtfhlhdmhgheonaaGreatDoor
