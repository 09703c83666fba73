/-
  An account in memory: its struct's block, its log, its mailboxes' and emails' blocks; keywords and members of emails in blocks that nothing writes any more. What single steps do to an account in memory: a cell of its struct, of a mailbox, of an email; a mailbox, an email more; the log. The walks of slices.Clone at mailboxes and at members of emails. The walks of slices.IndexFunc and slices.Contain
-/
import Derived.Test.YtnofkliaofgiaaaGreatDoorGA
import Derived.Test.YtnofkliaofgiaaaGreatDoorGB
import Derived.Test.YtnofkliaofgiaaaGreatDoorGC
import Derived.Shelf.SlicesQ.IndexFunc
import Derived.Deep.QuietTactic
import Derived.BigQuiet
import Derived.Deep.RegionLaw
import Derived.Deep.DrawnRows
import Derived.Deep.DeepCutAuto
import Derived.Deep.CutBlock
import Derived.Laws.LoneSync
set_option maxRecDepth 100000
set_option maxHeartbeats 8000000
open Go.Proofs.Tryz
open Exists renaming intro→OA
open Go renaming TypeId→Pa,Value→Oe,World→Oc
open Go.Ending renaming returned→RR
open Go.IntKind renaming i64→Ov
open Go.IntWalk renaming i64_in→Og
open Go.Lib renaming run_eql_slice_nil→P2
open Go.Proofs renaming enters_of→O9
open Go.RowKit renaming Below→Od
open Go.RowKit.Below renaming refl→Ok
open Go.Value renaming pointer→RQ,slice→RO,string→RP
open Go.World renaming block_lt_of_cell?→OH,cell?_alloc_at→PZ,cell?_alloc_lt→Ox,cell?_of_block→PU,size_alloc→O3
open List renaming eq_nil_of_length_eq_zero→Oi,find?_cons_of_neg→Pb,getElem?_eq_getElem→Ot,getElem?_eq_some_iff→OX,getElem?_map→O5,getElem_mem→Oj,getElem_of_mem→Pg,length_append→Oo,length_map→Ow,length_set→Pd,length_singleton→Pf,map_append→OQ,map_cons→OY,mem_append→OO,mem_cons→OB,mem_cons_of_mem→OP,mem_map→OL,mem_singleton→OI,take_of_length_le→Ou,take_succ_eq_append_getElem→Oh
open Nat renaming add_assoc→O1,le_refl→Oq,le_trans→Ol,lt_of_lt_of_le→OJ,mul_le_mul_right→PG,zero_le→OE
open Option renaming mem_toList→Pe
open Option.some renaming inj→O6
open _root_ renaming ByteArray→Oy,List→Ob,Option→OC,decide_eq_false→OD,decide_eq_true→OS,getElem!_pos→PD,if_neg→Om
namespace Go.Proofs.YtnofkliaofgiaaaGreatDoor
section
open Go.RowKit
def Qh (s:yx):Oe:=RP ⟨s.toArray⟩
def uZ (b:xA):Ob Oe:=[I b.id,Qh b.name,I b.zB,I b.valid,I b.next,I b.mod]
def yC (p:Int×Int):Ob Oe:=[I p.1,I p.2]
structure xd where
 p:zR
 kv:Oe
 mv:Oe
def xV (m:xd):Ob Oe:=[I m.p.id,I m.p.thread,Qh m.p.text,I m.p.at_,m.kv,m.mv,I m.p.mod,I m.p.born]
def LJ (c:Ud):Ob Oe:=[Qh c.user,Qh c.pass,I c.xb,I c.xl,I c.yA,I c.vC,I c.ym,I c.uF,I c.CJ]
theorem xF (b:xA):(uZ b).length=6:=rfl
theorem yG (p:Int×Int):(yC p).length=2:=rfl
theorem xr (m:xd):(xV m).length=8:=rfl
theorem qF (b:xA):∀u∈uZ b,u.oneCell'=true:=by
 intro u a
 simp only[uZ,OB,List.not_mem_nil,or_false] at a
 rcases a with rfl|rfl|rfl|rfl|rfl|rfl <;> rfl
theorem U0 (p:Int×Int):∀u∈yC p,u.oneCell'=true:=by
 intro u a
 simp only[yC,OB,List.not_mem_nil,or_false] at a
 rcases a with rfl|rfl <;> rfl
structure zW where
 gl:Nat
 hl:OC Nat
 hb:OC Nat
 hm:OC Nat
 vb:Oe
 vm:Oe
 ms:Ob xd
def zW.own (q:zW)(g:Nat):Ob Nat:=g :: q.gl :: (q.hl.toList++q.hb.toList++q.hm.toList)
theorem zW.Yp {q:zW}{g k:Nat}(h:q.hl=some k):k∈q.own g:=by simp[zW.own,h]
theorem zW.Yo {q:zW}{g k:Nat}(h:q.hb=some k):k∈q.own g:=by simp[zW.own,h]
theorem zW.Z5 {q:zW}{g k:Nat}(h:q.hm=some k):k∈q.own g:=by simp[zW.own,h]
theorem zW.ZP {q:zW}{g:Nat}:g∈q.own g:=by simp[zW.own]
theorem zW.J4 {q:zW}{g:Nat}:q.gl∈q.own g:=by simp[zW.own]
def QB (q:zW)(x:Acc):Ob Oe:=LJ x.N3++[I x.zA,q.vb,q.vm,RQ (some (Y q.gl 0)),I x.zS,I x.zN,I x.zP]
def NT (w:Oc)(e:Pa)(v:Oe):Prop:=∀a n c,v=RO (some a) n c→0 < n→∃cs,NG w a.block e cs
theorem NT.keep {w w':Oc}{S:Ob Nat}{e:Pa}{size n:Nat}{v:Oe}{xs:Ob Oe}(h:NT w e v)(hr:NN w S size v n xs)(hk:∀b,b < w.heap.size→b∉S→w'.heap[b]?=w.heap[b]?):NT w' e v:=by
 intro a m c d f
 obtain⟨g,k⟩:=h a m c d f
 rcases hr.2 with⟨h1,_⟩|⟨a',cap,h1,_,_,h2⟩
 ·rw[h1] at d
  cases d
 ·rw[d] at h1
  injection h1 with e1 e2 _
  injection e1 with e1
  subst e1 e2
  obtain⟨_,i,j,_⟩:=h2 f
  exact⟨g,(hk _ i j).trans k⟩
theorem Sl.ty {w:Oc}{e:Pa}{size n:Nat}{v:Oe}{h:OC Nat}{xs:Ob Oe}(hs:Sl w e size v h n xs):NT w e v:=by
 intro a m c d _
 rcases hs.2 with⟨_,h1,_⟩|⟨b,off,cap,cur,_,h1,hB,_⟩
 ·rw[h1] at d
  cases d
 ·rw[h1] at d
  injection d with e1 _ _
  injection e1 with e1
  subst e1
  exact⟨cur,hB⟩
theorem NN.other {w:Oc}{S:Ob Nat}{e e':Pa}{size n b:Nat}{v:Oe}{xs:Ob Oe}{cs:Array Oe}(hr:NN w S size v n xs)(ht:NT w e v)(hB:NG w b e' cs)(hne:e≠e'):NN w (b :: S) size v n xs:=by
 refine⟨hr.1,?_⟩
 rcases hr.2 with h1|⟨a,cap,h1,h2,h3,h4⟩
 ·exact .inl h1
 ·refine .inr ⟨a,cap,h1,h2,h3,fun hn=>?_⟩
  obtain⟨f,g,h,i⟩:=h4 hn
  obtain⟨d,c⟩:=ht a n cap h1 hn
  refine⟨f,g,fun hm=>?_,i⟩
  rcases OB.1 hm with h5|h5
  ·exact c.ne hB hne h5
  ·exact h h5
structure xB (w:Oc)(S:Ob Nat)(m:xd):Prop where
 keys:NN w S 1 m.kv m.p.keys.length (m.p.keys.map encStr)
 mem:NN w S 2 m.mv m.p.zr.length (zU yC m.p.zr)
 tk:NT w 9 m.kv
 tm:NT w 153 m.mv
structure zH (w:Oc)(g:Nat)(q:zW)(x:Acc):Prop where
 blk:NG w g 148 (QB q x).toArray
 log:Y6 w q.gl q.hl x.log
 zg:Sl w 73 6 q.vb q.hb x.zg.length (zU uZ x.zg)
 same:q.ms.map (·.p)=x.zC
 zC:Sl w 83 8 q.vm q.hm x.zC.length (zU xV q.ms)
 parts:∀m∈q.ms,xB w (q.own g) m
section
variable {w w':Oc} {g:Nat} {q:zW} {x:Acc} {S T:Ob Nat} {m:xd}
theorem xB.keep (h:xB w S m)(hsz:w.heap.size≤w'.heap.size)(hk:∀b,b < w.heap.size→b∉S→w'.heap[b]?=w.heap[b]?)(hT:∀b,b < w.heap.size→b∉S→b∉T):xB w' T m:=
 ⟨h.keys.keep hsz hk hT,h.mem.keep hsz hk hT,h.tk.keep h.keys hk,h.tm.keep h.mem hk⟩
theorem zH.lt (h:zH w g q x):∀k∈q.own g,k < w.heap.size:=by
 exact MM
theorem zH.later (h:zH w g q x)(hb:Od w w w'):zH w' g q x:=by
 exact MR
theorem zH.heap (h:zH w g q x)(he:w'.heap=w.heap)(e1:w'.os=w.os)(e2:w'.tape=w.tape)(e3:w'.output=w.output):zH w' g q x:=
 h.later ⟨e1,e2,e3,by rw[he];exact Oq _,fun k _=>by rw[he]⟩
theorem zH.alloc (h:zH w g q x)(o:Obj):zH (w.alloc o) g q x:=h.later ((Ok _ w).alloc (Oq _) o)
theorem zH.drewN (h:zH w g q x)(n:Nat):zH (w.drewN n) g q x:=h.heap rfl rfl rfl rfl
theorem zH.cells (h:zH w g q x)(j:Nat):w.cell? (Y g j)=(QB q x)[j]?:=by
 rw[h.blk.cell]
 simp
theorem zH.vF (h:zH w g q x):w.cell? (Y g 9)=some (I x.zA):=h.cells 9
theorem zH.yZ (h:zH w g q x):w.cell? (Y g 10)=some q.vb:=h.cells 10
theorem zH.xj (h:zH w g q x):w.cell? (Y g 11)=some q.vm:=h.cells 11
theorem zH.xp (h:zH w g q x):w.cell? (Y g 12)=some (RQ (some (Y q.gl 0))):=h.cells 12
theorem zH.Vs (h:zH w g q x):w.cell? (Y g 13)=some (I x.zS):=h.cells 13
theorem zH.JS (h:zH w g q x):w.cell? (Y g 14)=some (I x.zN):=h.cells 14
theorem zH.QA (h:zH w g q x):w.cell? (Y g 15)=some (I x.zP):=h.cells 15
theorem zH.frozen (h:zH w g q x)(j:Nat):w.frozen? (Y g j)=false:=h.blk.frozen j
end
structure zL (w w':Oc)(g:Nat)(q:zW)(x':Acc)(q':zW):Prop where
 at_:zH w' g q' x'
 N4:NH (q.own g) w w'
 own:∀k∈q'.own g,k∈q.own g∨w.heap.size≤k
section
variable {w w' w'':Oc} {g:Nat} {q q' q'':zW} {x x' x'':Acc}
theorem zL.refl (h:zH w g q x):zL w w g q x q:=⟨h,NH.refl _ _,fun _ h=>.inl h⟩
theorem zL.of_below (h:zH w g q x)(hb:Od w w w'):zL w w' g q x q:=⟨h.later hb,NH.of_below hb _,fun _ h=>.inl h⟩
theorem zL.trans (h:zL w w' g q x' q')(k:zL w' w'' g q' x'' q''):zL w w'' g q x'' q'':=
 ⟨k.at_,h.N4.trans k.N4 h.own,fun i hi=>by
  rcases k.own i hi with h1|h1
  ·exact h.own i h1
  ·exact .inr (Ol h.N4.size h1)⟩
end
structure yP (w wr:Oc)(g:Nat)(q:zW)(x:Acc):Prop where
 at_:zH wr g q x
 below:Od w w wr
 own:∀k∈q.own g,w.heap.size≤k
section
variable {w wr w':Oc} {g:Nat} {q q':zW} {x x':Acc}
theorem yP.later (h:yP w wr g q x)(hb:Od wr wr w'):yP w w' g q x:=⟨h.at_.later hb,h.below.trans (hb.mono h.below.size),h.own⟩
theorem yP.turned (h:yP w wr g q x)(k:zL wr w' g q x' q'):yP w w' g q' x':=
 ⟨k.at_,h.below.trans (k.N4.below h.below.size h.own),fun i hi=>by
  rcases k.own i hi with h1|h1
  ·exact h.own i h1
  ·exact Ol h.below.size h1⟩
end
section
variable {w w':Oc} {g:Nat} {q q':zW} {x x':Acc}
theorem Sl.np {e e':Pa}{size size' n n':Nat}{v v':Oe}{h h':OC Nat}{xs xs':Ob Oe}(hs:Sl w e size v h n xs)(hs':Sl w e' size' v' h' n' xs')(hne:e≠e'):∀b,h=some b→h'≠some b:=by
 intro b c a
 rcases hs'.2 with⟨hn,_⟩|⟨b',off,cap,cur,hh',_,hB,_⟩
 ·rw[a] at hn
  cases hn
 ·rw[a] at hh'
  obtain rfl:=O6 hh'
  exact hs.vu hB hne b c rfl
structure Apart (g:Nat)(q:zW):Prop where
 gl:g≠q.gl
 hl:q.hl≠some g
 hb:q.hb≠some g
 hm:q.hm≠some g
 lb:q.hb≠some q.gl
 lm:q.hm≠some q.gl
 ll:q.hl≠some q.gl
 eb:∀b,q.hl=some b→q.hb≠some b
 em:∀b,q.hl=some b→q.hm≠some b
 bm:∀b,q.hb=some b→q.hm≠some b
theorem zH.apart (h:zH w g q x):Apart g q:=by
 exact Mh
theorem xB.step {m:xd}(h:xB w (q.own g) m)(hc:NH (q.own g) w w')(ho:∀k∈q'.own g,k∈q.own g∨w.heap.size≤k):xB w' (q'.own g) m:=
 h.keep hc.size hc.block fun b hb hn hm=>by
  rcases ho b hm with h1|h1
  ·exact hn h1
  ·omega
theorem zH.vn (h:zH w g q x)(j:Nat)(u:Oe)(x':Acc)(hcells:QB q x'=(QB q x).set j u)(hb:x'.zg=x.zg)(hm:x'.zC=x.zC)(hl:x'.log=x.log):zL w (w.setCell (Y g j) u) g q x' q:=by
 have ha:=h.apart
 have hc:NH [g] w (w.setCell (Y g j) u):=(NH.refl [g] w).set (.inl zv) u
 have a:NH (q.own g) w (w.setCell (Y g j) u):=hc.mono fun k hk=>by
  simp only[OI] at hk
  subst hk
  exact .inl zW.ZP
 refine⟨⟨?_,?_,?_,?_,?_,fun m hmm=>(h.parts m hmm).step a (fun k hk=>.inl hk)⟩,a,fun k hk=>.inl hk⟩
 ·have:=h.blk.set j u
  rw[show (QB q x').toArray=(QB q x).toArray.setIfInBounds j u from by rw[hcells];simp]
  exact this
 ·exact FD
 ·rw[hb]
  exact h.zg.far (p:=⟨g,j,none⟩) ha.hb u
 ·rw[hm]
  exact h.same
 ·rw[hm]
  exact h.zC.far (p:=⟨g,j,none⟩) ha.hm u
theorem zH.vU (h:zH w g q x){b off n cap:Nat}(hv:q.vb=RO (some (Y b off)) n cap)(i:Nat)(hi:i < x.zg.length)(j:Nat)(hj:j < 6)(u:Oe)(y:xA)(hy:uZ y=(uZ x.zg[i]).set j u) :
  zL w (w.setCell (Y b (off+i * 6+j)) u) g q {x with zg:=x.zg.set i y} q:=by
 exact L1
theorem zH.DG (h:zH w g q x){l:Vq}{hl':OC Nat}(hl:Y6 w' q.gl hl' l)(hc:NH (q.gl :: q.hl.toList) w w')(ho:hl'=q.hl∨∃k,hl'=some k∧w.heap.size≤k):zL w w' g q {x with log:=l} {q with hl:=hl'}:=by
 exact L6
theorem zH.nL (h:zH w g q x)(y:xA){v':Oe}{h':OC Nat}(hs:Sl w' 73 6 v' h' (x.zg.length+1) (zU uZ x.zg++uZ y))(hc:NH q.hb.toList w w')(ho:h'=q.hb∨∃k,h'=some k∧w.heap.size≤k) :
  zL w (w'.setCell (Y g 10) v') g q {x with zg:=x.zg++[y]} {q with hb:=h',vb:=v'}:=by
 exact zzm6q
theorem zH.eN (h:zH w g q x)(m:xd){v':Oe}{h':OC Nat}(hp:xB w (q.own g) m)(hs:Sl w' 83 8 v' h' (x.zC.length+1) (zU xV q.ms++xV m))(hc:NH q.hm.toList w w')(ho:h'=q.hm∨∃k,h'=some k∧w.heap.size≤k) :
  zL w (w'.setCell (Y g 11) v') g q {x with zC:=x.zC++[m.p]} {q with hm:=h',vm:=v',ms:=q.ms++[m]}:=by
 exact zzm5q
theorem zH.Vn (h:zH w g q x)(i:Nat)(hi:i < x.zg.length):∃b off cap,q.vb=RO (some (Y b off)) x.zg.length cap∧q.hb=some b∧x.zg.length≤cap∧cap≤maxLen∧b < w.heap.size∧
  ∀j,j < 6→w.cell? (Y b (off+i * 6+j))=(uZ x.zg[i])[j]?∧w.frozen? (Y b (off+i * 6+j))=false:=by
 exact MD
theorem zH.XC (h:zH w g q x):q.ms.length=x.zC.length:=by
 rw[←h.same,Ow]
theorem zH.msAt (h:zH w g q x)(i:Nat)(hi:i < x.zC.length)(hi2:i < q.ms.length):q.ms[i].p=x.zC[i]:=by
 exact Nr
theorem zH.ud (h:zH w g q x)(i:Nat)(hi:i < x.zC.length)(hi2:i < q.ms.length):∃b off cap,q.vm=RO (some (Y b off)) x.zC.length cap∧q.hm=some b∧x.zC.length≤cap∧cap≤maxLen∧b < w.heap.size∧
  ∀j,j < 8→w.cell? (Y b (off+i * 8+j))=(xV q.ms[i])[j]?∧w.frozen? (Y b (off+i * 8+j))=false:=by
 exact ME
theorem zH.Ze (h:zH w g q x){b off n cap:Nat}(hv:q.vm=RO (some (Y b off)) n cap)(i:Nat)(hi:i < x.zC.length)(hi2:i < q.ms.length)(j:Nat)(hj:j < 8)(u:Oe)(m:xd)(hm:xV m=(xV q.ms[i]).set j u)(hp:xB w (q.own g) m) :
  zL w (w.setCell (Y b (off+i * 8+j)) u) g q {x with zC:=x.zC.set i m.p} {q with ms:=q.ms.set i m}:=by
 exact zzm8q
theorem oG {gl b:Nat}{c:Ud}(hB:NG w g 148 (QB ⟨gl,none,some b,none,RO (some (Y b 0)) 1 1,RO none 0 0,[]⟩ (Yt c)).toArray)(hl:Y6 w gl none ⟨c.uF,[],0⟩)(hb:NG w b 73 (uZ ⟨1,Z3,0,1,1,1⟩).toArray):zH w g ⟨gl,none,some b,none,RO (some (Y b 0)) 1 1,RO none 0 0,[]⟩ (Yt c):=by
 exact EY
end
end
section
open Go.RowKit
attribute [local go_sem ↓] Go.wp_at_zero Go.wp_at_succ
theorem Try.infoBox:(prog.info? 73).map (fun i=>(i.zero,i.size,i.bytes))=some (some (.agg #[I 0,RP ⟨#[]⟩,I 0,I 0,I 0,I 0]),6,56):=zQ
theorem Try.infoMember:(prog.info? 153).map (fun i=>(i.zero,i.size,i.bytes))=some (some (.agg #[I 0,I 0]),2,16):=zQ
theorem rW (w:Oc)(v:Oe)(n:Nat)(xs:Ob Oe)(hr:NN w [] 6 v n xs)(h1:∀u∈xs,u.oneCell'=true)(hn:n≤1099511627776) :
  C 83 #[v] w fun e w'=>∃v' h',e=RR v'∧Sl w' 73 6 v' h' n xs∧Od w w w'∧∀b,h'=some b→w.heap.size≤b:=by
 obtain⟨j,h,d,f,g⟩:=info_parts Try.infoBox
 rcases hr with⟨hlen,⟨rfl,rfl⟩|⟨a,cap,rfl,hnc,hcm,hcell⟩⟩
 ·have i:xs=[]:=Oi aQ
  subst i
  have c:=fun W=>P2 (P:=prog) W 71 73 none 0 0 0 0 underlying71
  go_enter func83,ntmps83
  exact oZ
 ·have c:=fun W=>P2 (P:=prog) W 71 73 (some a) n cap 0 0 underlying71
  have xg:=Yu a hlen hcell
  go_enter func83,ntmps83
  go_wp2_with (at_builtin;refine xH _ rfl _ _ 71 rfl underlying71 h d f g rfl zD (ZB w 73 6) rfl a n cap xs rfl hlen ?_ h1 ?_ ?_ ?_)
  ·exact oU
  ·unfold maxLen
   omega
  ·omega
  ·exact IL
theorem JT (w:Oc)(v:Oe)(n:Nat)(xs:Ob Oe)(hr:NN w [] 2 v n xs)(h1:∀u∈xs,u.oneCell'=true)(hn:n≤1099511627776) :
  C 97 #[v] w fun e w'=>∃v' h',e=RR v'∧Sl w' 153 2 v' h' n xs∧Od w w w'∧∀b,h'=some b→w.heap.size≤b:=by
 obtain⟨j,h,d,f,g⟩:=info_parts Try.infoMember
 rcases hr with⟨hlen,⟨rfl,rfl⟩|⟨a,cap,rfl,hnc,hcm,hcell⟩⟩
 ·have i:xs=[]:=Oi aQ
  subst i
  have c:=fun W=>P2 (P:=prog) W 81 153 none 0 0 0 0 underlying81
  go_enter func97,ntmps97
  exact oZ
 ·have c:=fun W=>P2 (P:=prog) W 81 153 (some a) n cap 0 0 underlying81
  have xg:=Yu a hlen hcell
  go_enter func97,ntmps97
  go_wp2_with (at_builtin;refine xH _ rfl _ _ 81 rfl underlying81 h d f g rfl zD (ZB w 153 2) rfl a n cap xs rfl hlen ?_ h1 ?_ ?_ ?_)
  ·exact oU
  ·unfold maxLen
   omega
  ·omega
  ·exact IL
end
section
open Go.Shelf Go.RowKit Go.Lib
attribute [local go_sem ↓] Go.wp_at_zero Go.wp_at_succ
theorem QU {α:Type}[Inhabited α](p:α→Bool):∀(l:Ob α) (k:Nat),k < l.length→p l[k]! =true→(∀j,j < k→p l[j]! =false)→yU p l=k
 |x :: r,0,_,h,_=>by
  have:p x=true:=vZ
  simp[yU,this]
 |x :: r,k+1,hk,h,hj=>by
  have h0:p x=false:=by simpa using hj 0 O
  have a:=QU p r k yi vZ (fun j hj2=>by simpa using hj (j+1) O)
  unfold yU
  rw[h0,a]
  simp
  omega
theorem dE {α:Type}[Inhabited α](p:α→Bool)(l:Ob α)(h:∀j,j < l.length→p l[j]! =false):yU p l= -1:=by
 refine UC p l ?_
 rw[List.any_eq_false]
 intro x b
 obtain⟨j,a,rfl⟩:=Pg b
 have:=h j a
 rw[PD l j a] at this
 simp[this]
theorem XH {α:Type}(p:α→Bool)(l:Ob α):l.any p=decide (0≤yU p l):=by
 cases h:l.any p with
 |true=>simp[QV p l h]
 |false=>simp[UC p l h]
theorem len6 {l:Ob Oe}(h:l.length=6):∃a b c d e f,l=[a,b,c,d,e,f]:=by
 rcases l with _|⟨a,_|⟨b,_|⟨c,_|⟨d,_|⟨e,_|⟨f,_|⟨u,v⟩⟩⟩⟩⟩⟩⟩ <;> first|exact⟨_,_,_,_,_,_,rfl⟩|(exfalso;simp at h;done)|(exfalso;simp at h;omega)
theorem len8 {l:Ob Oe}(h:l.length=8):∃a b c d e f i j,l=[a,b,c,d,e,f,i,j]:=by
 rcases l with _|⟨a,_|⟨b,_|⟨c,_|⟨d,_|⟨e,_|⟨f,_|⟨i,_|⟨j,_|⟨u,v⟩⟩⟩⟩⟩⟩⟩⟩⟩ <;> first|exact⟨_,_,_,_,_,_,_,_,rfl⟩|(exfalso;simp at h;done)|(exfalso;simp at h;omega)
theorem len2 {l:Ob Oe}(h:l.length=2):∃a b,l=[a,b]:=by
 rcases l with _|⟨a,_|⟨b,_|⟨u,v⟩⟩⟩ <;> first|exact⟨_,_,rfl⟩|(exfalso;simp at h;done)|(exfalso;simp at h;omega)
theorem Uy {α:Type}[Inhabited α]{l:Ob α}{j:Nat}(hj:j < l.length):l[j]!∈l:=by
 rw[PD l j hj]
 exact Oj hj
instance:Inhabited xd:=⟨⟨default,default,default⟩⟩
theorem KQ {α:Type}[Inhabited α](enc:α→Ob Oe)(hk:∀x,(enc x).length=6)(p:α→Bool)(g:Nat)(lb:Array Oe)(eg:∀args w,(callFunc g args).run prog w=.ok (.enter g args) w)(b off n c:Nat)(zs:Ob α)(w:Oc)(hp:∀W,Od w w W→∀x∈zs,C g (#[.agg (enc x).toArray]++lb) W fun e w'=>e=RR (.bool (p x))∧Od w w w')(hz:zs.length=n)(hbig:n≤9223372036854775807)(hb:b < w.heap.size)(hc:∀j,j < zs.length→∀i v,(enc zs[j]!)[i]?=some v→w.cell? (Y b (off+j * 6+i))=some v) :
  C 82 #[RO (some (Y b off)) n c,.func (.func g) #[] lb] w fun e w'=>e=RR (I (yU p zs))∧Od w w w':=by
 have a:∀(W:Oc),Od w w W→∀j,j < zs.length→∀i v,(enc zs[j]!)[i]?=some v→W.cell? (Y b (off+j * 6+i))=some v:=fun W hW j hj i v hi=>(hW.cell (p:=⟨b,off+j * 6+i,none⟩) hb).trans (hc j hj i v hi)
 clear hc
 go_enter func82,ntmps82
 go_wp2
 go_loopg [5,8] n (fun gg _ s8 wr=>∃kk:Nat,kk≤n∧n - kk≤gg∧s8=I kk∧Aside (Od w w wr)∧Aside (∀j,j < kk→p zs[j]! =false))
 case atStart=>exact⟨0,OE _,O,rfl,Ok _ w,fun j hj=>absurd hj (Nat.not_lt_zero _)⟩
 case round=>
  obtain⟨kk,q,F,rfl,BW,A⟩:=hrel
  by_cases r:kk < n
  ·have iw:(kk:Int) < (n:Int):=O
   have l2:=a wr BW.out kk O
   have dm:=hp wr BW.out zs[kk]! (Uy O)
   clear a hp
   generalize o:zs[kk]! =y at l2 dm
   have B:Aside (zs[kk]! =y):=o
   clear o
   obtain⟨d,f,h,k,l,m,hv⟩:=len6 (hk y)
   rw[hv] at l2 dm
   have s:wr.cell? (Y b (off+kk * 6))=some d:=l2 0 d rfl
   have t:wr.cell? (Y b (off+kk * 6+1))=some f:=l2 1 f rfl
   have u:wr.cell? (Y b (off+kk * 6+2))=some h:=l2 2 h rfl
   have z:wr.cell? (Y b (off+kk * 6+3))=some k:=l2 3 k rfl
   have D:wr.cell? (Y b (off+kk * 6+4))=some l:=l2 4 l rfl
   have E:wr.cell? (Y b (off+kk * 6+5))=some m:=l2 5 m rfl
   have dm:C g (#[.agg #[d,f,h,k,l,m]]++lb) wr fun e w'=>e=RR (.bool (p y))∧Od w w w':=dm
   exact rJ
  ·exact fN
theorem sV (a:OC Addr)(c:Nat)(fv:Oe)(w:Oc) :
  C 82 #[RO a 0 c,fv] w fun e w'=>e=RR (I (-1))∧w'=w:=by
 go_enter func82,ntmps82
 exact aN
theorem eH (v:Oe)(S:Ob Nat)(l:Ob xA)(p:xA→Bool)(g:Nat)(lb:Array Oe)(eg:∀args w,(callFunc g args).run prog w=.ok (.enter g args) w)(w:Oc)(hr:NN w S 6 v l.length (zU uZ l))(hn:l.length≤1099511627776)(hp:∀W,Od w w W→∀x∈l,C g (#[.agg (uZ x).toArray]++lb) W fun e w'=>e=RR (.bool (p x))∧Od w w w') :
  C 82 #[v,.func (.func g) #[] lb] w fun e w'=>e=RR (I (yU p l))∧Od w w w':=by
 rcases Nat.eq_zero_or_pos l.length with h0|hpos
 ·obtain rfl:l=[]:=Oi h0
  obtain⟨A,a,rfl,_,_⟩:=hr.form
  refine(sV A a _ w).mono ?_
  rintro e w' ⟨rfl,rfl⟩
  exact⟨rfl,Ok _ _⟩
 ·obtain⟨b,c,a,rfl,_,_,f,_,d⟩:=hr.at_ hpos
  exact KQ uZ xF p g lb eg b c l.length a l w hp rfl O f (fun j hj i v hv=>by
   rw[PD l j hj] at hv
   have h:i < 6:=by
    have:=(OX.1 hv).1
    rw[xF] at this
    exact this
   rw[show c+j * 6+i=c+(j * 6+i) by omega,d _ O,yv xF l j i hj h]
   exact hv)
theorem Vf (v:Oe)(S:Ob Nat)(l:Ob xA)(p:xA→Bool)(g:Nat)(lb:Array Oe)(eg:∀args w,(callFunc g args).run prog w=.ok (.enter g args) w)(w:Oc)(hr:NN w S 6 v l.length (zU uZ l))(hn:l.length≤1099511627776)(hp:∀W,Od w w W→∀x∈l,C g (#[.agg (uZ x).toArray]++lb) W fun e w'=>e=RR (.bool (p x))∧Od w w w') :
  C 30 #[v,.func (.func g) #[] lb] w fun e w'=>e=RR (.bool (l.any p))∧Od w w w':=by
 have b:=eH v S l p g lb eg w hr hn hp
 rw[XH]
 generalize yU p l=r at b
 clear hp hr hn eg
 go_enter func30,ntmps30
 go_wp2_with (go_at_call 82;refine b.mono ?_;rintro e w' ⟨rfl,a⟩)
 go_ret
 exact⟨rfl,a⟩
theorem KU {α:Type}[Inhabited α](enc:α→Ob Oe)(hk:∀x,(enc x).length=8)(p:α→Bool)(g:Nat)(lb:Array Oe)(eg:∀args w,(callFunc g args).run prog w=.ok (.enter g args) w)(b off n c:Nat)(zs:Ob α)(w:Oc)(hp:∀W,Od w w W→∀x∈zs,C g (#[.agg (enc x).toArray]++lb) W fun e w'=>e=RR (.bool (p x))∧Od w w w')(hz:zs.length=n)(hbig:n≤9223372036854775807)(hb:b < w.heap.size)(hc:∀j,j < zs.length→∀i v,(enc zs[j]!)[i]?=some v→w.cell? (Y b (off+j * 8+i))=some v) :
  C 159 #[RO (some (Y b off)) n c,.func (.func g) #[] lb] w fun e w'=>e=RR (I (yU p zs))∧Od w w w':=by
 have a:∀(W:Oc),Od w w W→∀j,j < zs.length→∀i v,(enc zs[j]!)[i]?=some v→W.cell? (Y b (off+j * 8+i))=some v:=fun W hW j hj i v hi=>(hW.cell (p:=⟨b,off+j * 8+i,none⟩) hb).trans (hc j hj i v hi)
 clear hc
 go_enter func159,ntmps159
 go_wp2
 go_loopg [5,8] n (fun gg _ s8 wr=>∃kk:Nat,kk≤n∧n - kk≤gg∧s8=I kk∧Aside (Od w w wr)∧Aside (∀j,j < kk→p zs[j]! =false))
 case atStart=>exact⟨0,OE _,O,rfl,Ok _ w,fun j hj=>absurd hj (Nat.not_lt_zero _)⟩
 case round=>
  obtain⟨kk,s,K,rfl,BW,A⟩:=hrel
  by_cases t:kk < n
  ·have iw:(kk:Int) < (n:Int):=O
   have l2:=a wr BW.out kk O
   have dm:=hp wr BW.out zs[kk]! (Uy O)
   clear a hp
   generalize r:zs[kk]! =y at l2 dm
   have B:Aside (zs[kk]! =y):=r
   clear r
   obtain⟨d,f,h,k,l,m,o,q,hv⟩:=len8 (hk y)
   rw[hv] at l2 dm
   have u:wr.cell? (Y b (off+kk * 8))=some d:=l2 0 d rfl
   have z:wr.cell? (Y b (off+kk * 8+1))=some f:=l2 1 f rfl
   have D:wr.cell? (Y b (off+kk * 8+2))=some h:=l2 2 h rfl
   have E:wr.cell? (Y b (off+kk * 8+3))=some k:=l2 3 k rfl
   have F:wr.cell? (Y b (off+kk * 8+4))=some l:=l2 4 l rfl
   have G:wr.cell? (Y b (off+kk * 8+5))=some m:=l2 5 m rfl
   have H:wr.cell? (Y b (off+kk * 8+6))=some o:=l2 6 o rfl
   have J:wr.cell? (Y b (off+kk * 8+7))=some q:=l2 7 q rfl
   have dm:C g (#[.agg #[d,f,h,k,l,m,o,q]]++lb) wr fun e w'=>e=RR (.bool (p y))∧Od w w w':=dm
   exact rJ
  ·exact fN
theorem sX (a:OC Addr)(c:Nat)(fv:Oe)(w:Oc) :
  C 159 #[RO a 0 c,fv] w fun e w'=>e=RR (I (-1))∧w'=w:=by
 go_enter func159,ntmps159
 exact aN
theorem qQ (v:Oe)(S:Ob Nat)(l:Ob xd)(p:xd→Bool)(g:Nat)(lb:Array Oe)(eg:∀args w,(callFunc g args).run prog w=.ok (.enter g args) w)(w:Oc)(hr:NN w S 8 v l.length (zU xV l))(hn:l.length≤1099511627776)(hp:∀W,Od w w W→∀x∈l,C g (#[.agg (xV x).toArray]++lb) W fun e w'=>e=RR (.bool (p x))∧Od w w w') :
  C 159 #[v,.func (.func g) #[] lb] w fun e w'=>e=RR (I (yU p l))∧Od w w w':=by
 rcases Nat.eq_zero_or_pos l.length with h0|hpos
 ·obtain rfl:l=[]:=Oi h0
  obtain⟨A,a,rfl,_,_⟩:=hr.form
  refine(sX A a _ w).mono ?_
  rintro e w' ⟨rfl,rfl⟩
  exact⟨rfl,Ok _ _⟩
 ·obtain⟨b,c,a,rfl,_,_,f,_,d⟩:=hr.at_ hpos
  exact KU xV xr p g lb eg b c l.length a l w hp rfl O f (fun j hj i v hv=>by
   rw[PD l j hj] at hv
   have h:i < 8:=by
    have:=(OX.1 hv).1
    rw[xr] at this
    exact this
   rw[show c+j * 8+i=c+(j * 8+i) by omega,d _ O,yv xr l j i hj h]
   exact hv)
theorem qM (v:Oe)(S:Ob Nat)(l:Ob xd)(p:xd→Bool)(g:Nat)(lb:Array Oe)(eg:∀args w,(callFunc g args).run prog w=.ok (.enter g args) w)(w:Oc)(hr:NN w S 8 v l.length (zU xV l))(hn:l.length≤1099511627776)(hp:∀W,Od w w W→∀x∈l,C g (#[.agg (xV x).toArray]++lb) W fun e w'=>e=RR (.bool (p x))∧Od w w w') :
  C 103 #[v,.func (.func g) #[] lb] w fun e w'=>e=RR (.bool (l.any p))∧Od w w w':=by
 have b:=qQ v S l p g lb eg w hr hn hp
 rw[XH]
 generalize yU p l=r at b
 clear hp hr hn eg
 go_enter func103,ntmps103
 go_wp2_with (go_at_call 159;refine b.mono ?_;rintro e w' ⟨rfl,a⟩)
 go_ret
 exact⟨rfl,a⟩
theorem KV {α:Type}[Inhabited α](enc:α→Ob Oe)(hk:∀x,(enc x).length=2)(p:α→Bool)(g:Nat)(lb:Array Oe)(eg:∀args w,(callFunc g args).run prog w=.ok (.enter g args) w)(b off n c:Nat)(zs:Ob α)(w:Oc)(hp:∀W,Od w w W→∀x∈zs,C g (#[.agg (enc x).toArray]++lb) W fun e w'=>e=RR (.bool (p x))∧Od w w w')(hz:zs.length=n)(hbig:n≤9223372036854775807)(hb:b < w.heap.size)(hc:∀j,j < zs.length→∀i v,(enc zs[j]!)[i]?=some v→w.cell? (Y b (off+j * 2+i))=some v) :
  C 163 #[RO (some (Y b off)) n c,.func (.func g) #[] lb] w fun e w'=>e=RR (I (yU p zs))∧Od w w w':=by
 have a:∀(W:Oc),Od w w W→∀j,j < zs.length→∀i v,(enc zs[j]!)[i]?=some v→W.cell? (Y b (off+j * 2+i))=some v:=fun W hW j hj i v hi=>(hW.cell (p:=⟨b,off+j * 2+i,none⟩) hb).trans (hc j hj i v hi)
 clear hc
 go_enter func163,ntmps163
 go_wp2
 go_loopg [5,8] n (fun gg _ s8 wr=>∃kk:Nat,kk≤n∧n - kk≤gg∧s8=I kk∧Aside (Od w w wr)∧Aside (∀j,j < kk→p zs[j]! =false))
 case atStart=>exact⟨0,OE _,O,rfl,Ok _ w,fun j hj=>absurd hj (Nat.not_lt_zero _)⟩
 case round=>
  obtain⟨kk,k,q,rfl,BW,A⟩:=hrel
  by_cases l:kk < n
  ·have iw:(kk:Int) < (n:Int):=O
   have l2:=a wr BW.out kk O
   have dm:=hp wr BW.out zs[kk]! (Uy O)
   clear a hp
   generalize h:zs[kk]! =y at l2 dm
   have B:Aside (zs[kk]! =y):=h
   clear h
   obtain⟨d,f,hv⟩:=len2 (hk y)
   rw[hv] at l2 dm
   have m:wr.cell? (Y b (off+kk * 2))=some d:=l2 0 d rfl
   have o:wr.cell? (Y b (off+kk * 2+1))=some f:=l2 1 f rfl
   have dm:C g (#[.agg #[d,f]]++lb) wr fun e w'=>e=RR (.bool (p y))∧Od w w w':=dm
   exact rJ
  ·exact fN
theorem sY (a:OC Addr)(c:Nat)(fv:Oe)(w:Oc) :
  C 163 #[RO a 0 c,fv] w fun e w'=>e=RR (I (-1))∧w'=w:=by
 go_enter func163,ntmps163
 exact aN
theorem qR (v:Oe)(S:Ob Nat)(l:Ob (Int×Int))(p:(Int×Int)→Bool)(g:Nat)(lb:Array Oe)(eg:∀args w,(callFunc g args).run prog w=.ok (.enter g args) w)(w:Oc)(hr:NN w S 2 v l.length (zU yC l))(hn:l.length≤1099511627776)(hp:∀W,Od w w W→∀x∈l,C g (#[.agg (yC x).toArray]++lb) W fun e w'=>e=RR (.bool (p x))∧Od w w w') :
  C 163 #[v,.func (.func g) #[] lb] w fun e w'=>e=RR (I (yU p l))∧Od w w w':=by
 rcases Nat.eq_zero_or_pos l.length with h0|hpos
 ·obtain rfl:l=[]:=Oi h0
  obtain⟨A,a,rfl,_,_⟩:=hr.form
  refine(sY A a _ w).mono ?_
  rintro e w' ⟨rfl,rfl⟩
  exact⟨rfl,Ok _ _⟩
 ·obtain⟨b,c,a,rfl,_,_,f,_,d⟩:=hr.at_ hpos
  exact KV yC yG p g lb eg b c l.length a l w hp rfl O f (fun j hj i v hv=>by
   rw[PD l j hj] at hv
   have h:i < 2:=by
    have:=(OX.1 hv).1
    rw[yG] at this
    exact this
   rw[show c+j * 2+i=c+(j * 2+i) by omega,d _ O,yv yG l j i hj h]
   exact hv)
theorem KP (v:Oe)(S:Ob Nat)(l:Ob (Int×Int))(p:(Int×Int)→Bool)(g:Nat)(lb:Array Oe)(eg:∀args w,(callFunc g args).run prog w=.ok (.enter g args) w)(w:Oc)(hr:NN w S 2 v l.length (zU yC l))(hn:l.length≤1099511627776)(hp:∀W,Od w w W→∀x∈l,C g (#[.agg (yC x).toArray]++lb) W fun e w'=>e=RR (.bool (p x))∧Od w w w') :
  C 175 #[v,.func (.func g) #[] lb] w fun e w'=>e=RR (.bool (l.any p))∧Od w w w':=by
 have b:=qR v S l p g lb eg w hr hn hp
 rw[XH]
 generalize yU p l=r at b
 clear hp hr hn eg
 go_enter func175,ntmps175
 go_wp2_with (go_at_call 163;refine b.mono ?_;rintro e w' ⟨rfl,a⟩)
 go_ret
 exact⟨rfl,a⟩
theorem KR (p:Int→Bool)(g:Nat)(lb:Array Oe)(eg:∀args w,(callFunc g args).run prog w=.ok (.enter g args) w)(b off n c:Nat)(zs:Ob Int)(w:Oc)(hp:∀W,Od w w W→∀x∈zs,C g (#[I x]++lb) W fun e w'=>e=RR (.bool (p x))∧Od w w w')(hz:zs.length=n)(hbig:n≤9223372036854775807)(hb:b < w.heap.size)(hc:∀j,j < zs.length→w.cell? (Y b (off+j))=some (I zs[j]!)) :
  C 150 #[RO (some (Y b off)) n c,.func (.func g) #[] lb] w fun e w'=>e=RR (I (yU p zs))∧Od w w w':=by
 exact zzm7q
theorem sW (a:OC Addr)(c:Nat)(fv:Oe)(w:Oc) :
  C 150 #[RO a 0 c,fv] w fun e w'=>e=RR (I (-1))∧w'=w:=by
 go_enter func150,ntmps150
 exact aN
theorem qP (v:Oe)(S:Ob Nat)(l:Ob Int)(p:Int→Bool)(g:Nat)(lb:Array Oe)(eg:∀args w,(callFunc g args).run prog w=.ok (.enter g args) w)(w:Oc)(hr:NN w S 1 v l.length (l.map yJ))(hn:l.length≤1099511627776)(hp:∀W,Od w w W→∀x∈l,C g (#[I x]++lb) W fun e w'=>e=RR (.bool (p x))∧Od w w w') :
  C 150 #[v,.func (.func g) #[] lb] w fun e w'=>e=RR (I (yU p l))∧Od w w w':=by
 rcases Nat.eq_zero_or_pos l.length with h0|hpos
 ·exact ES
 ·obtain⟨b,d,cap,rfl,_,_,c,_,a⟩:=hr.at_ hpos
  exact KR p g lb eg b d l.length cap l w hp rfl O c (fun j hj=>by
   rw[a j O,PD l j hj]
   simp[hj])
theorem KO (v:Oe)(S:Ob Nat)(l:Ob Int)(p:Int→Bool)(g:Nat)(lb:Array Oe)(eg:∀args w,(callFunc g args).run prog w=.ok (.enter g args) w)(w:Oc)(hr:NN w S 1 v l.length (l.map yJ))(hn:l.length≤1099511627776)(hp:∀W,Od w w W→∀x∈l,C g (#[I x]++lb) W fun e w'=>e=RR (.bool (p x))∧Od w w w') :
  C 72 #[v,.func (.func g) #[] lb] w fun e w'=>e=RR (.bool (l.any p))∧Od w w w':=by
 have hi:=qP v S l p g lb eg w hr hn hp
 exact Ng
theorem KT (p:Int→Bool)(g:Nat)(r:Oe)(eg:∀args w,(callFunc g args).run prog w=.ok (.enter g args) w)(b off n c:Nat)(zs:Ob Int)(w:Oc)(hp:∀W,Od w w W→∀x∈zs,C g #[r,I x] W fun e w'=>e=RR (.bool (p x))∧Od w w w')(hz:zs.length=n)(hbig:n≤9223372036854775807)(hb:b < w.heap.size)(hc:∀j,j < zs.length→w.cell? (Y b (off+j))=some (I zs[j]!)) :
  C 150 #[RO (some (Y b off)) n c,.func (.func g) #[r] #[]] w fun e w'=>e=RR (I (yU p zs))∧Od w w w':=by
 exact zzm7q
theorem KS (v:Oe)(S:Ob Nat)(l:Ob Int)(p:Int→Bool)(g:Nat)(r:Oe)(eg:∀args w,(callFunc g args).run prog w=.ok (.enter g args) w)(w:Oc)(hr:NN w S 1 v l.length (l.map yJ))(hn:l.length≤1099511627776)(hp:∀W,Od w w W→∀x∈l,C g #[r,I x] W fun e w'=>e=RR (.bool (p x))∧Od w w w') :
  C 150 #[v,.func (.func g) #[r] #[]] w fun e w'=>e=RR (I (yU p l))∧Od w w w':=by
 rcases Nat.eq_zero_or_pos l.length with h0|hpos
 ·exact ES
 ·obtain⟨b,d,cap,rfl,_,_,c,_,a⟩:=hr.at_ hpos
  exact KT p g r eg b d l.length cap l w hp rfl O c (fun j hj=>by
   rw[a j O,PD l j hj]
   simp[hj])
theorem qL (v:Oe)(S:Ob Nat)(l:Ob Int)(p:Int→Bool)(g:Nat)(r:Oe)(eg:∀args w,(callFunc g args).run prog w=.ok (.enter g args) w)(w:Oc)(hr:NN w S 1 v l.length (l.map yJ))(hn:l.length≤1099511627776)(hp:∀W,Od w w W→∀x∈l,C g #[r,I x] W fun e w'=>e=RR (.bool (p x))∧Od w w w') :
  C 72 #[v,.func (.func g) #[r] #[]] w fun e w'=>e=RR (.bool (l.any p))∧Od w w w':=by
 have hi:=KS v S l p g r eg w hr hn hp
 exact Ng
theorem mG (id:Int)(B:Nat)(w W:Oc)(x:xA)(hB:w.cell? (Y B 0)=some (I id))(hb:Od w w W) :
  C 173 (#[.agg (uZ x).toArray]++#[RQ (some (Y B 0))]) W fun e w'=>e=RR (.bool (decide (x.id=id)))∧Od w w w':=by
 have a:=OH _ _ hB
 have d:=(hb.cell (p:=⟨B,0,none⟩) a).trans hB
 have b:B < W.heap.size:=OJ a hb.size
 obtain⟨i,h,j,k,g,f⟩:=x
 show C 173 #[.agg #[I i,RP ⟨h.toArray⟩,I j,I k,I g,I f],Y B 0] W _
 have l:(W.alloc (.cells #[I i,Oa h,I j,I k,I g,I f] 73)).cell? (Y B 0)=some (I id):=(Ox W _ _ b).trans d
 have HB:=V hb
 clear hb d hB
 by_cases hi:i=id
 ·subst hi
  simp only[decide_true]
  exact H1
 ·have e:(i==id)=false:=vq
  have c:decide (i=id)=false:=OD hi
  simp only[c]
  clear c hi
  exact H1
theorem jQ (id:Int)(B:Nat)(w W:Oc)(x:xd)(hB:w.cell? (Y B 0)=some (I id))(hb:Od w w W) :
  C 160 (#[.agg (xV x).toArray]++#[RQ (some (Y B 0))]) W fun e w'=>e=RR (.bool (decide (x.p.id=id)))∧Od w w w':=by
 have a:=OH _ _ hB
 have f:=(hb.cell (p:=⟨B,0,none⟩) a).trans hB
 have b:B < W.heap.size:=OJ a hb.size
 obtain⟨⟨i,l,m,k,o,q,h,c⟩,g,j⟩:=x
 show C 160 #[.agg #[I i,I l,RP ⟨m.toArray⟩,I k,g,j,I h,I c],Y B 0] W _
 have n:(W.alloc (.cells #[I i,I l,Oa m,I k,g,j,I h,I c] 83)).cell? (Y B 0)=some (I id):=(Ox W _ _ b).trans f
 have HB:=V hb
 clear hb f hB
 by_cases hi:i=id
 ·subst hi
  simp only[decide_true]
  exact Hx
 ·have e:(i==id)=false:=vq
  have d:decide (i=id)=false:=OD hi
  simp only[d]
  clear d hi
  exact Hx
theorem vE (g:Nat)(v:Oe)(S:Ob Nat)(l:Ob xA)(id:Int)(w:Oc)(hg:w.cell? (Y g 10)=some v)(hr:NN w S 6 v l.length (zU uZ l))(hn:l.length≤1099511627776) :
  C 119 #[Y g 0,I id] w fun e w'=>e=RR (I (xC id l))∧Od w w w':=by
 have c:=OH _ _ hg
 have a:(w.alloc (.cells #[I id] 3)).cell? (Y w.heap.size 0)=some (I id):=(PZ _ _ _ _ rfl).trans rfl
 have h:(w.alloc (.cells #[I id] 3)).cell? (Y g 10)=some v:=(Ox w _ _ c).trans hg
 have d:∀args W,(callFunc 173 args).run prog W=.ok (.enter 173 args) W:=O9 func173 zQ rfl
 have f:=eH v S l (fun b=>decide (b.id=id)) 173 #[Y w.heap.size 0] d (w.alloc (.cells #[I id] 3)) (hr.below ((Ok _ w).alloc (Oq _) _)) hn
  (fun W hb x _=>mG id _ _ W x a hb)
 have hc2:C 82 #[v,.func (.func 173) #[] #[Y w.heap.size 0]] (w.alloc (.cells #[I id] 3)) fun e w'=>e=RR (I (xC id l))∧Od (w.alloc (.cells #[I id] 3)).heap.size (w.alloc (.cells #[I id] 3)) w':=f
 generalize xC id l=r at hc2
 clear f d hr a hg hn
 go_enter func119,ntmps119
 exact EJ
theorem Lb (g:Nat)(v:Oe)(S:Ob Nat)(l:Ob xd)(id:Int)(w:Oc)(hg:w.cell? (Y g 11)=some v)(hr:NN w S 8 v l.length (zU xV l))(hn:l.length≤1099511627776) :
  C 87 #[Y g 0,I id] w fun e w'=>e=RR (I (yU (fun m=>decide (m.p.id=id)) l))∧Od w w w':=by
 have c:=OH _ _ hg
 have a:(w.alloc (.cells #[I id] 3)).cell? (Y w.heap.size 0)=some (I id):=(PZ _ _ _ _ rfl).trans rfl
 have h:(w.alloc (.cells #[I id] 3)).cell? (Y g 11)=some v:=(Ox w _ _ c).trans hg
 have d:∀args W,(callFunc 160 args).run prog W=.ok (.enter 160 args) W:=O9 func160 zQ rfl
 have f:=qQ v S l (fun m=>decide (m.p.id=id)) 160 #[Y w.heap.size 0] d (w.alloc (.cells #[I id] 3)) (hr.below ((Ok _ w).alloc (Oq _) _)) hn
  (fun W b x _=>jQ id _ _ W x a b)
 generalize yU (fun m:xd=>decide (m.p.id=id)) l=r at f
 clear d hr a hg hn
 go_enter func87,ntmps87
 go_wp2_with (first
  |(go_at_call 159;refine f.mono ?_;rintro e i ⟨rfl,b⟩)
  |fail)
 go_ret
 exact⟨rfl,((Ok _ _).alloc (Oq _) _).trans (b.mono zv)⟩
theorem YR:∀{l:Ob xA} {id:Int},id∈ids l→∃k,∃hk:k < l.length,xC id l=(k:Int)∧l[k].id=id∧yb l id=l[k].next∧(∀f,xK id f l=l.set k (f l[k]))∧l.find? (fun b=>decide (b.id=id))=some l[k]
 |[],id,h=>by simp[ids] at h
 |b :: r,id,h=>by
  by_cases hb:b.id=id
  ·exact⟨0,zv,by simp[xC,yU,hb],hb,by simp[yb,hb],fun f=>by simp[xK,hb],by simp[hb]⟩
  ·have h':id∈ids r:=by
    simp only[ids,OY,OB] at h
    rcases h with h|h
    ·exact absurd h.symm hb
    ·exact h
   obtain⟨k,hk,d,e,g,i,j⟩:=YR h'
   refine⟨k+1,yi,?_,e,?_,fun f=>?_,?_⟩
   ·have a:yU (fun b:xA=>decide (b.id=id)) r=k:=d
    have c:¬decide (b.id=id)=true:=xQ
    unfold xC yU
    rw[Om c,a,Om O]
    omega
   ·rw[List.getElem_cons_succ,←g]
    simp[yb,hb]
   ·simp only[xK,Om hb,i f,List.set_cons_succ,List.getElem_cons_succ]
   ·rw[Pb xQ]
    exact j
section
variable {w w':Oc} {g:Nat} {q:zW} {x:Acc}
theorem zH.boxesTo (h:zH w g q x)(bs:Ob xA)(hc:NH q.hb.toList w w')(hs:Sl w' 73 6 q.vb q.hb bs.length (zU uZ bs)):zL w w' g q {x with zg:=bs} q:=by
 have c:=h.apart
 have a:NH (q.own g) w w':=hc.mono fun k hk=>.inl (zW.Yo yi)
 refine⟨⟨?_,?_,hs,h.same,?_,fun m hmm=>(h.parts m hmm).step a (fun k hk=>.inl hk)⟩,a,fun k hk=>.inl hk⟩
 ·exact h.blk.N4 hc (by simpa using c.hb)
 ·exact h.log.N4 hc (by simpa using c.lb) (fun b hb=>by simpa using c.eb b hb)
 ·exact h.zC.N4 hc (fun b hb=>by
   simp only[Pe]
   exact fun e=>c.bm b e hb)
theorem zt (w:Oc)(o:Obj):Od w w (w.alloc o):=(Ok _ w).alloc (Oq _) o
theorem zG (w:Oc):Od w w w.drew:=⟨rfl,rfl,rfl,Oq _,fun _ _=>rfl⟩
theorem uk {B:Nat}{w w':Oc}(h:Od B w.drew w'):Od B w w':=⟨h.os,h.tape,h.output,h.size,h.block⟩
theorem zj {w w1 w2:Oc}(h:Od w w w1)(h2:Od w1 w1 w2):Od w w w2:=h.trans (h2.mono h.size)
theorem Zk {w w':Oc}(h:Od w w w'){p:Addr}(hp:p.block < w.heap.size):w'.frozen? p=w.frozen? p:=World.frozen?_of_block (h.block p.block hp)
theorem yD {W:Oc}(he:W.heap=w.heap)(p:Addr):W.cell? p=w.cell? p:=PU (by rw[he])
end
theorem lD (w:Oc)(g:Nat)(q:zW)(x:Acc)(h:zH w g q x)(hn:x.zg.length≤1099511627776)(id:Int)(hid:id∈ids x.zg) :
  C 73 #[Y g 0,I id] w fun e w'=>e=RR (.bool (x.spent id))∧Od w w w':=by
 obtain⟨k,K,D,_,E,_,_⟩:=YR hid
 obtain⟨b,c,u,F,v,z,J,y,f⟩:=h.Vn k K
 have d:w.cell? (Y g 10)=some (RO (some (Y b c)) x.zg.length u):=h.yZ.trans (by rw[F])
 have A:w.cell? (Y g 5)=some (I x.N3.vC):=h.cells 5
 have B:w.cell? (Y b (c+k * 6+4))=some (I x.zg[k].next):=(f 4 O).1
 have i:=fun W (he:W.heap=w.heap)=>vE g q.vb [] x.zg id W ((yD he _).trans h.yZ) ((h.zg.heap he).reads [] zv) hn
 rw[D] at i
 have s:x.spent id=decide (x.N3.vC < x.zg[k].next):=by
  unfold Acc.spent
  rw[E]
 have j:=h.blk.lt
 rw[s]
 obtain⟨H,r⟩:∃H,x.zg[k].next=H:=⟨_,rfl⟩
 rw[r] at B ⊢
 obtain⟨n,m⟩:∃n,x.zg.length=n:=⟨_,rfl⟩
 rw[m] at d z
 obtain⟨G,l⟩:∃G,x.N3.vC=G:=⟨_,rfl⟩
 rw[l] at A ⊢
 have L:(k:Int) < (n:Int):=O
 have M:k < n:=O
 clear s D E f F v hn hid h r l m
 go_enter func73,ntmps73
 go_wp2_with fail
 go_region_with (first
  |(go_at_call 119;refine(i _ zF).mono ?_;rintro e R ⟨rfl,a⟩;have N:=(a.cell (p:=⟨g,10,none⟩) j).trans d;have Q:=(a.cell (p:=⟨g,5,none⟩) j).trans A;have P:=(a.cell (p:=⟨b,c+k * 6+4,none⟩) y).trans B;have t:=V (uk a);clear a)
  |fail)
 all_goals
  go_wp2
  go_ret
  exact⟨rfl,t.o⟩
theorem cZ (w:Oc)(g:Nat)(q:zW)(x:Acc)(h:zH w g q x)(hn:x.zg.length≤1099511627776)(id:Int)(hid:id∈ids x.zg)(hnx1:0≤yb x.zg id∧yb x.zg id≤4294967296) :
  C 76 #[Y g 0,I id] w fun e w'=>e=RR (.agg #[I id,I (yb x.zg id)])∧zL w w' g q {x with zg:=JR id x.zg} q:=by
 obtain⟨k,U,R,_,S,T,_⟩:=YR hid
 obtain⟨b,f,K,H,u,M,a1,E,z⟩:=h.Vn k U
 have s:w.cell? (Y g 10)=some (RO (some (Y b f)) x.zg.length K):=h.yZ.trans (by rw[H])
 obtain⟨G,cf⟩:=z 4 O
 have G:w.cell? (Y b (f+k * 6+4))=some (I x.zg[k].next):=G
 have B:=fun W (hb:Od w w W)=>vE g q.vb [] x.zg id W ((hb.cell h.blk.lt).trans h.yZ) ((h.zg.keep (fun b c=>hb.block b (h.zg.lt b c))).reads [] zv) hn
 rw[R] at B
 have D:=h.blk.lt
 have m:∀W a,x.zg[k].next=a→Od w w W→∀P Q,zL w (((W.setCell (Y b (f+k * 6+4)) (I (a+1))).setCell (Y w.heap.size 0) P).setCell (Y w.heap.size 1) Q) g q {x with zg:=JR id x.zg} q:=by
  rintro W a rfl hb P Q
  refine h.boxesTo _ ?_ ?_
  ·rw[u]
   exact(((NH.of_below hb [b]).set (.inl zv) _).set (.inr (Oq _)) _).set (.inr (Oq _)) _
  ·have A:=h.zg.keep (w':=W) (fun b c=>hb.block b (h.zg.lt b c))
   rw[H] at A
   have c:=A.store (k * 6+4) (I (x.zg[k].next+1))
   rw[ub xF x.zg k 4 U O _ {x.zg[k] with next:=x.zg[k].next+1} rfl,←O1,←H] at c
   have r:q.hb≠some w.heap.size:=fun e=>by
    rw[u] at e
    injection e with e
    omega
   have l:=(c.far (p:=⟨w.heap.size,0,none⟩) r P).far (p:=⟨w.heap.size,1,none⟩) r Q
   have L:JR id x.zg=x.zg.set k {x.zg[k] with next:=x.zg[k].next+1}:=T _
   rw[L,Pd]
   exact l
 rw[S] at hnx1 ⊢
 obtain⟨a,y⟩:∃a,x.zg[k].next=a:=⟨_,rfl⟩
 have j:=fun W=>m W a y
 rw[y] at G hnx1 ⊢
 obtain⟨n,F⟩:∃n,x.zg.length=n:=⟨_,rfl⟩
 rw[F] at s M
 have a2:(k:Int) < (n:Int):=O
 have a3:k < n:=O
 obtain⟨a7,a8⟩:=hnx1
 have a4:-9223372036854775808≤a+1:=O
 have a5:a+1≤9223372036854775807:=O
 have a6:a+1 - 1=a:=O
 have HE:=V j
 clear m j R S T z H u hn hid h y F
 go_enter func76,ntmps76
 go_wp2_with fail
 have a0:=(Ox w (.cells #[I 0,I 0] 153) (Y g 10) D).trans s
 go_region_with (first
  |(go_at_call 119;refine(B _ (zj (zt w _) (zG _))).mono ?_;rintro e w3 ⟨rfl,l⟩;have t:=uk l;have i:=zj (zt w _) t;have d:=(NG.new w 153 #[I 0,I 0]).below t zv;have r0:w3.cell? (Y w.heap.size 0)=some (I 0):=d.cell 0;have r1:w3.cell? (Y w.heap.size 1)=some (I 0):=d.cell 1;have HK:=V d;have f0:=d.frozen 0;have f1:=d.frozen 1;have k4:=(i.cell (p:=⟨b,f+k * 6+4,none⟩) E).trans G;have a9:=(i.cell (p:=⟨g,10,none⟩) D).trans s;have kf:=(Zk i (p:=⟨b,f+k * 6+4,none⟩) E).trans cf;have J:=V i;clear l t i d)
  |fail)
 all_goals
  have N:b≠w.heap.size:=O
  go_wp2
  refine bodyPost_ret (v:=.agg #[I id,I a]) ?_ rfl ⟨rfl,HE.o _ J.o _ _⟩
  have X:=((HK.o.far (p:=⟨b,f+k * 6+4,none⟩) (fun e=>N e.symm) (I (a+1))).set 0 (I id)).set 1 (I a)
  have z0:=X.cell 0
  have z1:=X.cell 1
  simp at z0 z1
  simp[results,Tryz.results76,go_sem,z0,z1]
theorem Jd (id:Int)(f:xA→xA)(hf:∀b,(f b).id=b.id):∀l,ids (xK id f l)=ids l
 |[]=>rfl
 |b :: r=>by
  unfold xK
  split
  ·simp[ids,hf]
  ·have:=Jd id f hf r
   simp only[ids,OY] at this ⊢
   rw[this]
theorem Z' (mod:Int):∀(is:Ob Int) (l:Ob xA),ids (zI mod is l)=ids l
 |[],_=>rfl
 |i :: r,l=>by
  have h1:zI mod (i :: r) l=zI mod r (xK i (fun b=>{b with mod:=mod}) l):=rfl
  rw[h1,Z' mod r,Jd]
  intro b
  rfl
theorem lJ (mod:Int)(is:Ob Int)(l:Ob xA):(zI mod is l).length=l.length:=by
 have:=congrArg List.length (Z' mod is l)
 simpa[ids] using this
theorem VC (mod:Int)(is:Ob Int)(i:Int)(l:Ob xA):zI mod (is++[i]) l=xK i (fun b=>{b with mod:=mod}) (zI mod is l):=by
 simp[zI]
theorem UN (mod:Int)(is:Ob Int)(i:Int):zX mod (is++[i])=zX mod is++[⟨mod,1,i,2⟩]:=by
 simp[zX]
theorem xP (mod:Int)(is:Ob Int):(zX mod is).length=is.length:=by simp[zX]
theorem Sl.tight {w:Oc}{e:Pa}{size n cap:Nat}{A:OC Addr}{h:OC Nat}{xs:Ob Oe}(hs:Sl w e size (RO A n cap) h n xs):Sl w e size (RO A n n) h n xs:=by
 refine⟨hs.1,?_⟩
 rcases hs.2 with⟨h1,hv,h2⟩|⟨b',off',cap',cur,hh,hv,hB,hnc,hcm,hcs,ht⟩
 ·injection hv with hv1 _ hv3
  subst h2 hv1
  exact .inl ⟨h1,rfl,rfl⟩
 ·injection hv with hv1 _ hv3
  subst hv1 hv3
  have a:n * size≤cap * size:=PG _ hnc
  exact .inr ⟨b',off',n,cur,hh,rfl,hB,Oq _,O,O,ht⟩
theorem zL.newer {w W W2:Oc}{g:Nat}{q:zW}{x x1:Acc}{S:Ob Nat}(h:zL w W g q x1 q)(hw:zH w g q x)(hc:NH S W W2)(hS:∀k∈S,w.heap.size≤k):zL w W2 g q x1 q:=by
 exact Mf
structure YC (w wr:Oc)(g:Nat)(q:zW)(x:Acc)(mod:Int)(l:Ob Int)(vc:Oe)(hc:OC Nat)(k:Nat)(o:Oe):Prop where
 o:∃h,Sl wr 159 4 o h k (yR (zX mod (l.take k)))∧∀b,h=some b→w.heap.size≤b
 st:zL w wr g q {x with zg:=zI mod (l.take k) x.zg} q
 src:Sl wr 3 1 vc hc l.length (l.map yJ)
 new:∀b,hc=some b→w.heap.size≤b
theorem YC.box {w wr:Oc}{g:Nat}{q:zW}{x:Acc}{mod:Int}{l:Ob Int}{vc:Oe}{hc:OC Nat}{k:Nat}{o:Oe}(h:YC w wr g q x mod l vc hc k o)(hk:k < l.length)(hall:∀i∈l,i∈ids x.zg)(hn:x.zg.length≤1099511627776)(hw:zH w g q x) :
  ∃(j b off cap:Nat),j < x.zg.length∧wr.cell? (Y g 10)=some (RO (some (Y b off)) x.zg.length cap)∧wr.frozen? (Y b (off+j * 6+5))=false∧(∃u,wr.cell? (Y b (off+j * 6+5))=some u)∧g < wr.heap.size∧b < wr.heap.size∧
   (∀W,Od wr wr W→C 119 #[Y g 0,I l[k]] W fun e w'=>e=RR (I j)∧Od W W w')∧
   (∀W,Od wr wr W→zL w (W.setCell (Y b (off+j * 6+5)) (I mod)) g q {x with zg:=zI mod (l.take (k+1)) x.zg} q∧
    (∀{e size v hh n xs},Sl wr e size v hh n xs→(∀b',hh=some b'→w.heap.size≤b')→Sl (W.setCell (Y b (off+j * 6+5)) (I mod)) e size v hh n xs)):=by
 have a:=h.st.at_
 have r:l[k]∈ids (zI mod (l.take k) x.zg):=by
  rw[Z']
  exact hall _ (Oj hk)
 obtain⟨j,y,D,L,M,E,_⟩:=YR r
 have c:=lJ mod (l.take k) x.zg
 obtain⟨b,off,cap,z,m,J,H,s,f⟩:=a.Vn j y
 obtain⟨A,B⟩:=f 5 O
 refine⟨j,b,off,cap,O,?_,B,⟨_,A⟩,a.blk.lt,s,fun W hb=>?_,fun W hb=>⟨?_,fun {e size v hh n xs} hs hf=>?_⟩⟩
 ·rw[a.yZ,z]
  simp only[c]
 ·have d:=vE g q.vb [] _ l[k] W ((hb.cell a.blk.lt).trans a.yZ) ((a.zg.keep (fun b hb2=>hb.block b (a.zg.lt b hb2))).reads [] zv) (by simp only[c];exact hn)
  simp only[D] at d
  exact d
 ·have K:=(a.later hb).vU z j y 5 O (I mod) {(zI mod (l.take k) x.zg)[j] with mod:=mod} rfl
  have F:=(h.st.trans (zL.of_below a hb)).trans K
  have G:(zI mod (l.take k) x.zg).set j {(zI mod (l.take k) x.zg)[j] with mod:=mod}=zI mod (l.take (k+1)) x.zg:=by
   rw[Oh hk,VC]
   exact(E (fun b=>{b with mod:=mod})).symm
  rw[←G]
  exact F
 ·have t:=hs.keep (w':=W) (fun b' hb'=>hb.block b' (hs.lt b' hb'))
  refine t.far (p:=⟨b,off+j * 6+5,none⟩) (fun e=>?_) _
  have N:=hf b e
  have P:=hw.lt b (zW.Yo m)
  omega
theorem YC.start {w w1 w2 w3:Oc}{g:Nat}{q:zW}{x:Acc}{mod:Int}{l:Ob Int}{v3:Oe}{h1:OC Nat}(h:zH w g q x)(hb1:Od w w w1)(ho1:∀b,h1=some b→w.heap.size≤b)(hc2:NH h1.toList w1 w2)(hc3:NH h1.toList w2 w3)(hs3:Sl w3 3 1 v3 h1 l.length (l.map yJ)):YC w w3 g q x mod l v3 h1 0 (RO none 0 0):=by
 have a:∀k∈h1.toList,w.heap.size≤k:=fun k hk=>ho1 k yi
 have c:Od w w w2:=hb1.trans (hc2.below hb1.size a)
 have d:Od w w w3:=c.trans (hc3.below c.size a)
 exact⟨⟨none,Sl.nil _ _ _,fun b hb=>by cases hb⟩,zL.of_below h d,hs3,ho1⟩
theorem YC.next {w wr W W2:Oc}{g:Nat}{q:zW}{x:Acc}{mod:Int}{l:Ob Int}{vc:Oe}{hc:OC Nat}{k:Nat}{o o2:Oe}{h1 h2:OC Nat}(hR:YC w wr g q x mod l vc hc k o)(hk:k < l.length)(ht:zL w W g q {x with zg:=zI mod (l.take (k+1)) x.zg} q)(hsrc:Sl W 3 1 vc hc l.length (l.map yJ))(hf1:∀b,h1=some b→w.heap.size≤b)(hne:∀b,h1=some b→hc≠some b)(hs2:Sl W2 159 4 o2 h2 (k+1) (yR (zX mod (l.take k))++[I mod,I 1,I l[k],I 2]))(hc2:NH h1.toList W W2)(ho2:h2=h1∨∃g,h2=some g∧W.heap.size≤g)(hw:zH w g q x) :
  YC w W2 g q x mod l vc hc (k+1) o2:=by
 have a:=ht.N4.size
 refine⟨⟨h2,?_,fun b hb=>?_⟩,?_,?_,hR.new⟩
 ·rw[Oh hk,UN,vB]
  exact hs2
 ·rcases ho2 with h3|⟨g2,h3,h4⟩
  ·exact hf1 b V2
  ·rw[h3] at hb
   injection hb with hb
   omega
 ·exact ht.newer hw hc2 fun k hk=>hf1 k yi
 ·exact hsrc.N4 hc2 (fun b hb hm=>hne b yT hb)
theorem Y2 (w:Oc)(g:Nat)(q:zW)(x:Acc)(h:zH w g q x)(hn:x.zg.length≤1099511627776)(mod:Int)(is:Ob Int)(v:Oe)(S:Ob Nat)(hr:NN w S 1 v is.length (is.map yJ))(hin:is.length≤1099511627776)(hall:∀i∈is,i∈ids x.zg) :
  C 78 #[Y g 0,I mod,v] w fun e w'=>∃v' hh,e=RR v'∧Sl w' 159 4 v' hh (rise is).length (yR (zX mod (rise is)))∧(∀b,hh=some b→w.heap.size≤b)∧zL w w' g q {x with zg:=zI mod (rise is) x.zg} q:=by
 obtain⟨i0,hi,am,an,ao⟩:=info_parts Try.infoEntry
 have X:=ut w v is S hr hin
 have c:∀i∈rise is,i∈ids x.zg:=fun i hi=>hall i ((uU is i).1 hi)
 have a1:=xG is
 have a6:=Uk is
 generalize rise is=l at c a1 a6 ⊢
 obtain⟨n,a3⟩:∃n,l.length=n:=⟨_,rfl⟩
 have HW:=V h
 have G:=V c
 clear hr hall c h
 go_enter func78,ntmps78
 go_wp2_with (first
  |(go_at_call 92;refine X.mono ?_;rintro e w1 ⟨v1,N,rfl,a7,P,a4⟩;have aa:=kZ w1 v1 N is.length is a7 O;have H:=V P;have L:=V a4;clear X a7 P a4)
  |(go_at_call 146;refine aa.mono ?_;rintro e w2 ⟨rfl,a8,T⟩;have a0:=JU w2 v1 N is.length (Jg is) a8 O;have J:=V T;clear aa a8 T)
  |(go_at_call 147;refine a0.mono ?_;rintro e w3 ⟨v3,rfl,u,U⟩;rw[a6] at u;have HT:=V (YC.start (mod:=mod) HW.o H.o L.o J.o U u);obtain⟨A3,f,rfl,_,_⟩:=u.form;clear a0 u U H L J)
  |fail)
 rw[a3] at HT
 go_loopw [8,18] (fun o i wr=>∃k:Nat,k≤n∧i=I k∧Z (YC w wr g q x mod l (RO A3 n f) N k o)) (fun _ i _=>n - (intOf i).toNat)
 case atStart=>exact⟨0,OE _,rfl,HT⟩
 case round=>
  obtain⟨k,hk,rfl,t⟩:=hrel
  by_cases a':k < n
  ·have B:k < l.length:=O
   obtain⟨j,b,ab,ar,hj,M,cf,⟨u0,cu⟩,hg,hb,R,z⟩:=t.o.box B G.o hn HW.o
   obtain⟨b3,s,ag,_,E,_,_,au,y⟩:=t.o.src.at_ O
   injection E with hv1 hv2 E
   subst hv1 E
   clear hv2
   have cs:wr.cell? (Y b3 (s+k))=some (I l[k]):=by
    rw[(y k O).1]
    simp[B]
   obtain⟨h0,a,r⟩:=t.o.o
   obtain⟨A0,d,rfl,_,_⟩:=a.form
   have HE:=V z
   have ad:=V a
   have K:=V r
   obtain⟨id,hid⟩:∃id,l[k]=id:=⟨_,rfl⟩
   have ac:=V hid
   rw[hid] at cs R
   obtain⟨nb,a2⟩:∃nb,x.zg.length=nb:=⟨_,rfl⟩
   rw[a2] at M hj
   have av:(j:Int) < (nb:Int):=O
   clear y z a r hid a2
   go_upto_region 7 with(fail)
   go_cut [10] (fun i wx=>i=I id∧Z (zL w wx g q {x with zg:=zI mod (l.take (k+1)) x.zg} q∧Sl wx 3 1 (RO (some (Y b3 s)) n f) N l.length (l.map yJ)∧Sl wx 159 4 (RO A0 k d) h0 k (yR (zX mod (l.take k)))))
   case first=>
    go_region_with (first
     |(go_at_call 119;refine(R _ (zG _)).mono ?_;rintro e w4 ⟨rfl,Q⟩;have m:=uk Q;have b0:=(m.cell (p:=⟨g,10,none⟩) hg).trans M;have kf:=(Zk m (p:=⟨b,ab+j * 6+5,none⟩) hb).trans cf;have ku:=(m.cell (p:=⟨b,ab+j * 6+5,none⟩) hb).trans cu;have A:=V m;clear Q m)
     |fail)
    all_goals
     go_wp2_with fail
     go_meet
     exact⟨rfl,V ⟨(HE.o _ A.o).1,(HE.o _ A.o).2 t.o.src t.o.new,(HE.o _ A.o).2 ad.o K.o⟩⟩
   case rest=>
    obtain⟨rfl,F⟩:=hcut
    obtain⟨we,rfl⟩:∃we:Oc,we=wc:=⟨_,rfl⟩
    go_wp2_with (first
     |(at_builtin;refine yc rfl _ _ 156 rfl underlying156 hi am an ao rfl zD F.o.2.2 rfl 1 1 rfl rfl ?_ ?_ ?_ ?_))
    ·simp[Value.oneCell']
    ·unfold maxLen
     omega
    ·omega
    ·intro v2 h2 w5 a9 W a5
     have HN:Z (YC w w5 g q x mod l (RO (some (Y b3 s)) n f) N (k+1) v2):=V (by
      have hid:=ac.o
      subst hid
      exact t.o.next B F.o.1 F.o.2.1 K.o (fun b' hb' e=>F.o.2.1.np F.o.2.2 zD b' e hb') a9 W a5 HW.o)
     clear a9 W a5 F
     go_wp2_with fail
     refine⟨?_,zV⟩
     first|exact⟨k+1,O,zE,HN⟩|((repeat apply OA);exact⟨⟨k+1,O,zE,HN⟩,rfl⟩)
  ·have al:k=n:=O
   subst al
   obtain⟨h0,a,r⟩:=t.o.o
   obtain⟨A0,d,rfl,aq,ap⟩:=a.form
   rw[Ou O] at a
   have D:=t.o.st
   rw[Ou O] at D
   have az:(0:Int)≤(k:Int):=O
   have aw:(k:Int)≤(d:Int):=O
   have HF:=V r
   have HS:=V a
   have ae:=V D
   clear a D r t
   go_wp2_with fail
   go_ret
   refine⟨_,h0,rfl,?_,HF.o,ae.o⟩
   rw[a3]
   exact HS.o.tight
theorem ua (id:Int)(l:Ob xA):decide (xC id l < 0)=!zZ l id:=by
 have h:=XH (fun b:xA=>decide (b.id=id)) l
 have c:zZ l id=decide (0≤xC id l):=h
 rw[c]
 by_cases a:xC id l < 0
 ·rw[OS a,OD O]
  rfl
 ·rw[OD a,OS O]
  rfl
theorem lS (w:Oc)(g:Nat)(q:zW)(x:Acc)(h:zH w g q x)(hn:x.zg.length≤1099511627776)(B:Nat)(hB:w.cell? (Y B 0)=some (RQ (some (Y g 0))))(W:Oc)(hb:Od w w W)(id:Int) :
  C 148 (#[I id]++#[RQ (some (Y B 0))]) W fun e w'=>e=RR (.bool (!zZ x.zg id))∧Od w w w':=by
 show C 148 #[I id,Y B 0] W _
 have d:=OH _ _ hB
 have i:=(hb.cell (p:=⟨B,0,none⟩) d).trans hB
 have a:=h.later hb
 have b:=vE g q.vb [] x.zg id W a.yZ (a.zg.reads [] zv) hn
 rw[←ua]
 generalize xC id x.zg=r at b
 have f:=V hb
 clear hB a h hb
 go_enter func148,ntmps148
 go_wp2_with (first
  |(go_at_call 119;refine b.mono ?_;rintro e j ⟨rfl,c⟩)
  |fail)
 go_ret
 exact⟨rfl,zj f.o c⟩
theorem Ye (w:Oc)(g:Nat)(q:zW)(x:Acc)(h:zH w g q x)(hn:x.zg.length≤1099511627776)(is:Ob Int)(v:Oe)(S:Ob Nat)(hr:NN w S 1 v is.length (is.map yJ))(hin:is.length≤1099511627776) :
  C 70 #[Y g 0,v] w fun e w'=>∃v' hh,e=RR (.tuple #[v',.bool (!(rise is).any (fun id=>!zZ x.zg id))])∧Sl w' 3 1 v' hh (rise is).length ((rise is).map yJ)∧(∀b,hh=some b→w.heap.size≤b)∧Od w w w':=by
 have i:=zt w (.cells #[Y g 0] 26)
 have B:=ut (w.alloc (.cells #[Y g 0] 26)) v is S (hr.below i) hin
 have L:(w.alloc (.cells #[Y g 0] 26)).cell? (Y w.heap.size 0)=some (RQ (some (Y g 0))):=(PZ _ _ _ _ rfl).trans rfl
 have E:=xG is
 have G:=Uk is
 generalize rise is=l at E G ⊢
 have Q:∀args W,(callFunc 148 args).run prog W=.ok (.enter 148 args) W:=O9 func148 zQ rfl
 have c:∀(f:Oc) m h3,Od (w.alloc (.cells #[Y g 0] 26)).heap.size (w.alloc (.cells #[Y g 0] 26)) f→Sl f 3 1 m h3 l.length (l.map yJ)→
   C 72 #[m,.func (.func 148) #[] #[Y w.heap.size 0]] f fun e w'=>e=RR (.bool (l.any fun id=>!zZ x.zg id))∧Od f f w':=fun f m h3 a d=>
  KO m [] l (fun id=>!zZ x.zg id) _ _ Q f (d.reads [] zv) O (fun W hb id _=>lS f g q x (h.later (zj i a)) hn _ ((a.cell zv).trans L) W hb id)
 generalize (l.any fun id=>!zZ x.zg id)=ans at c
 have n:=V i
 have P:=V c
 clear hr i L Q c h
 go_enter func70,ntmps70
 go_wp2_with (first
  |(go_at_call 92;refine B.mono ?_;rintro e T ⟨R,M,rfl,H,u,F⟩;have K:=kZ T R M is.length is H O;have p:=V u;have j:=V F;clear B H u F)
  |(go_at_call 146;refine K.mono ?_;rintro e U ⟨rfl,J,z⟩;have D:=JU U R M is.length (Jg is) J O;have r:=V (p.o.trans (z.below p.o.size (fun k hk=>j.o k yi)));clear K J z)
  |(go_at_call 147;refine D.mono ?_;rintro e f ⟨m,rfl,d,A⟩;rw[G] at d;have a:=r.o.trans (A.below r.o.size (fun k hk=>j.o k yi));have c:=P.o f m M a d;have t:=V d;have N:=V a;clear D d A a)
  |(go_at_call 72;refine c.mono ?_;rintro e X ⟨rfl,y⟩;have s:=V y;clear y c)
  |fail)
 go_ret2
 exact⟨m,M,rfl,t.o.keep (fun b hb=>s.o.block b (t.o.lt b hb)),fun b hb=>Ol n.o.size (j.o b hb),zj (zj n.o N.o) s.o⟩
end
section
open Go.RowKit
attribute [local go_sem ↓] Go.wp_at_zero Go.wp_at_succ
theorem mE (g o:Nat)(x y:Int)(w:Oc)(hc:w.cell? (Y g o)=some (I x))(hf:w.frozen? (Y g o)=false)(hs:-9223372036854775808≤x+y∧x+y≤9223372036854775807) :
  C 151 #[Y g o,I y] w fun e w'=>e=RR (I (x+y))∧w'=w.setCell (Y g o) (I (x+y)):=by
 have b:Ov.wrap (x+y)=x+y:=Og _ hs
 have c:=run_call_add (P:=prog) (f:=184) func184 rfl rfl rfl .i64 rfl (a:=⟨g,o,none⟩) (x:=x) (y:=y) (s:=x+y) (w:=w) hc hf (by simp[Op.intArith,b])
 go_enter func151,ntmps151
 go_wp2
 go_ret
 exact⟨rfl,rfl⟩
theorem JQ (g o:Nat)(x:Int)(w:Oc)(hc:w.cell? (Y g o)=some (I x)) :
  C 47 #[Y g o] w fun e w'=>e=RR (I x)∧w=w':=by
 have b:=run_call_load (P:=prog) (f:=110) func110 rfl rfl rfl .i64 rfl (a:=⟨g,o,none⟩) (x:=x) (w:=w) hc
 go_enter func47,ntmps47
 go_wp2
 go_ret
 exact⟨rfl,rfl⟩
theorem AE (g:Nat)(x:Int)(w:Oc)(hc:w.cell? (Y g 9)=some (I x)) :
  C 149 #[Y g 0] w fun e w'=>e=RR (I x)∧w=w':=by
 have a:=JQ g 9 x w hc
 go_enter func149,ntmps149
 go_wp2_with (first
  |(go_at_call 47;refine a.mono ?_;rintro e w' ⟨rfl,rfl⟩)
  |fail)
 go_ret
 exact⟨rfl,rfl⟩
theorem YA (g:Nat)(x:Int)(w:Oc)(hc:w.cell? (Y g 9)=some (I x))(hf:w.frozen? (Y g 9)=false)(hx:0≤x∧x≤4294967296) :
  C 74 #[Y g 0] w fun e w'=>e=RR (I (x+1))∧w'=w.setCell (Y g 9) (I (x+1)):=by
 have a:=mE g 9 x 1 w hc hf O
 go_enter func74,ntmps74
 go_wp2_with (first
  |(go_at_call 151;refine a.mono ?_;rintro e w' ⟨rfl,rfl⟩)
  |fail)
 go_ret
 exact⟨rfl,rfl⟩
theorem vQ (g:Nat)(x m:Int)(w:Oc)(hc:w.cell? (Y g 9)=some (I x))(hm:w.cell? (Y g 6)=some (I m)) :
  C 71 #[Y g 0] w fun e w'=>e=RR (.bool (decide (m≤x)))∧∃n,w'=w.drewN n:=by
 have a:=fun W (h:W.heap=w.heap)=>AE g x W (by rw[show W.cell? (Y g 9)=w.cell? (Y g 9) from PU (by rw[h])];exact hc)
 go_enter func71,ntmps71
 go_wp2_with fail
 go_region_with (first
  |(go_at_call 149;refine(a _ zF).mono ?_;rintro e b ⟨rfl,rfl⟩)
  |fail)
 all_goals
  go_wp2
  go_ret
  exact⟨rfl,1,rfl⟩
end
section
open Go.Shelf Go.RowKit Go.Lib
attribute [local go_sem ↓] Go.wp_at_zero Go.wp_at_succ
theorem Z6 (g o:Nat)(x y:Int)(w:Oc)(hc:w.cell? (Y g o)=some (I x))(hf:w.frozen? (Y g o)=false) :
  C 48 #[Y g o,I y] w fun e w'=>e=RR (.tuple #[])∧w'=w.setCell (Y g o) (I y):=by
 have b:=run_call_store (P:=prog) (f:=111) func111 rfl rfl rfl rfl (a:=⟨g,o,none⟩) (k:=.i64) (y:=y) (u:=I x) (w:=w) hc hf
 go_enter func48,ntmps48
 go_wp2
 go_end0
 exact⟨rfl,rfl⟩
theorem AB (w:Oc):C 79 #[RP ⟨#[117]⟩] w fun e w'=>e=RR (.bool true)∧w=w':=by
 have h:=dZ ⟨#[117]⟩ w zD
 rw[show Y8 (⟨#[117]⟩:Oy).data.toList=true from by decide] at h
 exact h
theorem AA (w:Oc):C 79 #[RP ⟨#[112]⟩] w fun e w'=>e=RR (.bool true)∧w=w':=by
 have h:=dZ ⟨#[112]⟩ w zD
 rw[show Y8 (⟨#[112]⟩:Oy).data.toList=true from by decide] at h
 exact h
theorem Qj (w:Oc)(o:Obj)(t:Pa)(cs:Array Oe):NG ((w.alloc o).alloc (.cells cs t)) (w.heap.size+1) t cs:=by
 have h:=NG.new (w.alloc o) t cs
 rw[show (w.alloc o).heap.size=w.heap.size+1 from by simp] at h
 exact h
def cfgN (m1 m2 m3 m4 m5 m6 m7:Int):Ud:=⟨[117],[112],m1,m2,m3,m4,m5,m6,m7⟩
def lim (m:Int):Prop:=1≤m∧m≤2147483647
theorem rh (m1 m2 m3 m4 m5 m6 m7:Int)(h1:lim m1)(h2:lim m2)(h3:lim m3)(h4:lim m4)(h5:lim m5)(h6:lim m6)(h7:lim m7)(w:Oc) :
  C 27 #[.agg #[RP ⟨#[117]⟩,RP ⟨#[112]⟩,I m1,I m2,I m3,I m4,I m5,I m6,I m7]] w fun e w'=>∃g q,e=RR (.tuple #[Y g 0,I 0])∧yP w w' g q (Yt (cfgN m1 m2 m3 m4 m5 m6 m7)):=by
 have y:=fun W=>AB W
 have x:=fun W=>AA W
 have v:=fun W=>new_ok m6 W (by unfold lim at h6;omega)
 have c:∀k,k < 7→∃m,lim m∧((w.alloc (.cells #[RP ⟨#[117]⟩,RP ⟨#[112]⟩,I m1,I m2,I m3,I m4,I m5,I m6,I m7] 66)).alloc (.cells #[I m1,I m2,I m3,I m4,I m5,I m6,I m7] 3)).cell? (Y (w.heap.size+1) k)=some (I m):=by
  intro k hk
  have D:=NG.new (w.alloc (.cells #[RP ⟨#[117]⟩,RP ⟨#[112]⟩,I m1,I m2,I m3,I m4,I m5,I m6,I m7] 66)) 3 #[I m1,I m2,I m3,I m4,I m5,I m6,I m7]
  have p:=D.cell k
  rw[show (w.alloc (.cells #[RP ⟨#[117]⟩,RP ⟨#[112]⟩,I m1,I m2,I m3,I m4,I m5,I m6,I m7] 66)).heap.size=w.heap.size+1 from by simp] at p
  rw[p]
  rcases k with _|_|_|_|_|_|_|k
  ·exact⟨m1,h1,rfl⟩
  ·exact⟨m2,h2,rfl⟩
  ·exact⟨m3,h3,rfl⟩
  ·exact⟨m4,h4,rfl⟩
  ·exact⟨m5,h5,rfl⟩
  ·exact⟨m6,h6,rfl⟩
  ·exact⟨m7,h7,rfl⟩
  ·omega
 have u:=V c
 clear c h1 h2 h3 h4 h5 h6 h7
 go_enter func27,ntmps27
 go_wp2_with (first
  |(go_at_call 79;(with_reducible refine(y _).mono ?_);rintro e H ⟨rfl,rfl⟩;clear y)
  |(go_at_call 79;(with_reducible refine(x _).mono ?_);rintro e H ⟨rfl,rfl⟩;clear x)
  |fail)
 go_loop [35] (fun i=>∃k:Nat,k≤7∧i=I k) (fun i=>7 - (intOf i).toNat)
 case atStart=>exact⟨0,OE _,rfl⟩
 case round=>
  obtain⟨k,hk,rfl⟩:=hrel
  by_cases s:k < 7
  ·obtain⟨m,⟨F,G⟩,p⟩:=u.o k s
   have E:(k:Int) < 7:=O
   have T:¬m < 1:=O
   have U:¬2147483647 < m:=O
   exact E6
  ·have r:k=7:=O
   subst r
   have B:=V ((NG.new w 66 #[RP ⟨#[117]⟩,RP ⟨#[112]⟩,I m1,I m2,I m3,I m4,I m5,I m6,I m7]).alloc (.cells #[I m1,I m2,I m3,I m4,I m5,I m6,I m7] 3))
   have j:=V (zj (zt w (.cells #[RP ⟨#[117]⟩,RP ⟨#[112]⟩,I m1,I m2,I m3,I m4,I m5,I m6,I m7] 66)) (zt _ (.cells #[I m1,I m2,I m3,I m4,I m5,I m6,I m7] 3)))
   clear u
   go_wp2_with (first
    |(go_at_call 80;refine(v _).mono ?_;rintro e b ⟨rfl,z,n,h⟩;have a:=B.o.below n zT;have J:b.cell? (Y w.heap.size 0)=some (RP ⟨#[117]⟩):=a.cell 0;have K:b.cell? (Y w.heap.size 1)=some (RP ⟨#[112]⟩):=a.cell 1;have L:b.cell? (Y w.heap.size 2)=some (I m1):=a.cell 2;have M:b.cell? (Y w.heap.size 3)=some (I m2):=a.cell 3;have N:b.cell? (Y w.heap.size 4)=some (I m3):=a.cell 4;have P:b.cell? (Y w.heap.size 5)=some (I m4):=a.cell 5;have Q:b.cell? (Y w.heap.size 6)=some (I m5):=a.cell 6;have R:b.cell? (Y w.heap.size 7)=some (I m6):=a.cell 7;have S:b.cell? (Y w.heap.size 8)=some (I m7):=a.cell 8;have d:=V (zj j.o n);have l:=V z;clear n z v a)
    |(go_at_call 48;(refine(Z6 (b.heap.size+1) 9 0 1 _ ((Qj b _ _ _).cell 9) ((Qj b _ _ _).frozen 9)).mono ?_;rintro e X ⟨rfl,rfl⟩))
    |fail)
   go_ret2
   have f:=l.o
   simp only[O3] at f
   have A:w.heap.size+1+1 < b.heap.size:=by simpa using h
   have t:=d.o.size
   refine⟨b.heap.size+1,⟨w.heap.size+1+1,none,some b.heap.size,none,RO (some (Y b.heap.size 0)) 1 1,RO none 0 0,[]⟩,rfl,⟨oG (Qj b _ _ _) (f.N4 (((NH.refl [] b).alloc _).alloc _) zv zv) ((NG.new b _ _).alloc _),(d.o.alloc t _).alloc zT _,fun k hk=>?_⟩⟩
   exact Fl
end
section
open Go.Shelf Go.RowKit
attribute [local go_sem ↓] Go.wp_at_zero Go.wp_at_succ
theorem Zd (w:Oc)(n:Int):C 9 #[I n] w fun e w'=>e=RR (I n)∧w=w':=by
 go_enter func9,ntmps9
 go_wp2
 go_ret
 exact⟨rfl,rfl⟩
theorem iG (w:Oc)(g:Nat)(q:zW)(x:Acc)(h:zH w g q x)(hn:x.zg.length≤1099511627776) :
  C 31 #[Y g 0] w fun e w'=>∃v hh,e=RR v∧Sl w' 73 6 v hh x.zg.length (zU uZ x.zg)∧(∀b,hh=some b→w.heap.size≤b)∧Od w w w':=by
 have d:=rW w q.vb x.zg.length (zU uZ x.zg) (h.zg.reads [] zv) (XQ qF x.zg) hn
 have a:=h.yZ
 clear h
 go_enter func31,ntmps31
 go_wp2_with (first
  |(go_at_call 83;refine d.mono ?_;rintro e j ⟨v,hh,rfl,i,c,f⟩)
  |fail)
 go_ret
 exact⟨v,hh,rfl,i,f,c⟩
theorem rH (w:Oc):C 28 #[] w fun e w'=>e=RR (.agg #[RP ⟨#[117]⟩,RP ⟨#[112]⟩,I 1000,I 100,I 1048576,I 1073741824,I 1073741824,I 10000,I 200])∧Od w w w':=by
 go_enter func28,ntmps28
 go_wp2
 refine bodyPost_ret (v:=.agg #[RP ⟨#[117]⟩,RP ⟨#[112]⟩,I 1000,I 100,I 1048576,I 1073741824,I 1073741824,I 10000,I 200]) ?_ rfl ⟨rfl,?_⟩
 ·simp[results,Tryz.results28,go_sem]
 ·exact zt w _
end
section
open Go.Shelf Go.RowKit
def Ku (s:yx):Oy:=⟨s.toArray⟩
theorem p7 {a b:yx}(h:Ku a=Ku b):a=b:=by
 have c:=congrArg (fun x=>x.data.toList) h
 simpa[Ku] using c
theorem eR {w:Oc}{S:Ob Nat}{v:Oe}{ss:yF}(h:NN w S 1 v ss.length (ss.map encStr))(hn:0 < ss.length) :
  ∃b off cap,v=RO (some (Y b off)) ss.length cap∧∀j,j < (ss.map Ku).length→w.cell? (Y b (off+j))=some (RP ((ss.map Ku).getD j ByteArray.empty)):=by
 obtain⟨b,off,cap,d,_,_,_,_,a⟩:=h.at_ hn
 refine⟨b,off,cap,d,fun j hj=>?_⟩
 have c:j < ss.length:=vL
 rw[a j O]
 simp[List.getD,c,encStr,Ku]
theorem U1 (w:Oc)(v1 v2:Oe)(S1 S2:Ob Nat)(xs ys:yF)(h1:NN w S1 1 v1 xs.length (xs.map encStr))(h2:NN w S2 1 v2 ys.length (ys.map encStr))(hn1:xs.length≤1099511627776)(hn2:ys.length≤1099511627776) :
  C 88 #[v1,v2] w fun e w'=>e=RR (.bool (decide (xs=ys)))∧Od w w w':=by
 by_cases i:xs.length=ys.length
 case neg=>
  have m:decide (xs=ys)=false:=OD (fun e=>i (by rw[e]))
  rw[m]
  obtain⟨f,c,rfl,_,_⟩:=h1.form
  obtain⟨g,d,rfl,_,_⟩:=h2.form
  refine(Tryz.slices_Equal_string_lens f g xs.length c ys.length d w i).mono ?_
  rintro e w' ⟨rfl,rfl⟩
  exact⟨rfl,Ok _ _⟩
 by_cases l:xs.length=0
 ·obtain rfl:xs=[]:=Oi l
  obtain rfl:ys=[]:=Oi (by rw[←i];rfl)
  obtain⟨f,c,rfl,_,_⟩:=h1.form
  obtain⟨g,d,rfl,_,_⟩:=h2.form
  refine(Tryz.slices_Equal_string_empty f g c 0 d w O).mono ?_
  rintro e w' ⟨rfl,rfl⟩
  exact⟨rfl,Ok _ _⟩
 ·obtain⟨j,q,c,rfl,o⟩:=eR h1 O
  obtain⟨k,r,d,rfl,p⟩:=eR h2 O
  refine(Tryz.slices_Equal_string j q xs.length c k r ys.length d (xs.map Ku) (ys.map Ku) w zv zv O O o p).mono ?_
  rintro e w' ⟨rfl,n,rfl⟩
  refine⟨xy ?_,⟨rfl,rfl,rfl,Oq _,fun _ _=>rfl⟩⟩
  rw[Ou zv,Ou zv]
  refine decide_eq_decide.2 ⟨fun h=>?_,fun h=>by rw[h]⟩
  exact(List.map_inj_right (fun a b hab=>p7 hab)).1 h
theorem qN (w:Oc)(v:Oe)(S:Ob Nat)(ss:yF)(c:yx)(h:NN w S 1 v ss.length (ss.map encStr))(hn:ss.length≤1099511627776) :
  C 89 #[v,Oa c] w fun e w'=>e=RR (.bool (decide (c∈ss)))∧w=w':=by
 by_cases j:ss.length=0
 ·obtain rfl:ss=[]:=Oi j
  obtain⟨g,d,rfl,_,_⟩:=h.form
  refine(Tryz.slices_Contains_string_empty g d ⟨c.toArray⟩ w).mono ?_
  rintro e w' ⟨rfl,rfl⟩
  exact⟨zv,rfl⟩
 ·obtain⟨i,m,d,rfl,l⟩:=eR h O
  refine(Tryz.slices_Contains_string i m ss.length d (ss.map Ku) ⟨c.toArray⟩ w zv O l).mono ?_
  rintro e w' ⟨rfl,rfl⟩
  refine⟨xy ?_,rfl⟩
  rw[Ou zv,Bool.eq_iff_iff,Lib.containsS_iff,decide_eq_true_iff]
  constructor
  ·intro f
   obtain⟨a,k,e⟩:=OL.1 f
   rw[←p7 (a:=a) (b:=c) e]
   exact k
  ·intro f
   exact OL.2 ⟨c,f,rfl⟩
end
end Go.Proofs.YtnofkliaofgiaaaGreatDoor
