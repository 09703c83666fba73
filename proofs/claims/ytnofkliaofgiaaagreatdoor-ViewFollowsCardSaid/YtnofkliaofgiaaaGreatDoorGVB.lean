/-
  A view in memory: its struct's block, its messages' block, a block for each number that was told; an account beside it. What turns a view in memory: a message that comes, the greatest number, what was told of one. A list of a mailbox's emails in memory, as the view's within makes it. The library's SortFunc over a mailbox's emails, as the view's within calls it. The walk of the view's within: a mai
-/
import Derived.Test.YtnofkliaofgiaaaGreatDoorGD
import Derived.Test.YtnofkliaofgiaaaGreatDoorGVA
import Derived.Test.YtnofkliaofgiaaaGreatDoorGM
import Derived.Test.YtnofkliaofgiaaaGreatDoorGS
import Derived.Shelf.SlSortCmp.NoneTotal
set_option maxRecDepth 100000
set_option maxHeartbeats 8000000
open Go.Proofs.Tryz
open Array renaming extract_size→Rx
open Exists renaming intro→OA
open Go renaming TypeId→Pa,Value→Oe,World→Oc
open Go.Ending renaming returned→RR
open Go.IntKind renaming i64→Ov
open Go.IntWalk renaming i64_in→Og
open Go.Lib renaming compareInt→Ra
open Go.Proofs renaming enters_of→O9
open Go.RowKit renaming Below→Od
open Go.RowKit.Below renaming refl→Ok
open Go.Value renaming pointer→RQ,slice→RO,string→RP
open Go.World renaming cell?_of_block→PU,size_alloc→O3
open List renaming append_assoc→O4,append_nil→Pr,eq_nil_of_length_eq_zero→Oi,filter_cons_of_pos→PM,flatMap_cons→RD,getElem?_eq_getElem→Ot,getElem?_eq_some_iff→OX,getElem?_map→O5,getElem_mem→Oj,getElem_of_mem→Pg,getElem_set_self→Ph,length_append→Oo,length_map→Ow,length_set→Pd,map_append→OQ,mem_append→OO,mem_cons→OB,mem_map→OL,mem_singleton→OI,nodup_append→P6,pairwise_iff_getElem→PF,pairwise_map→P0,take_of_length_le→Ou,take_succ_eq_append_getElem→Oh
open List.Perm renaming refl→Rp
open Nat renaming add_assoc→O1,le_refl→Oq,le_trans→Ol,lt_of_lt_of_le→OJ,zero_le→OE
open Option renaming mem_toList→Pe
open Option.some renaming inj→O6
open _root_ renaming List→Ob,Option→OC,getElem!_pos→PD
namespace Go.Proofs.YtnofkliaofgiaaaGreatDoor
section
open Go.RowKit
structure bV where
 p:NL
 t:Nat
instance:Inhabited bV:=⟨⟨default,0⟩⟩
def Yv (m:bV):Ob Oe:=[I m.p.uid,I m.p.id,RQ (some (Y m.t 0))]
theorem Um (m:bV):(Yv m).length=3:=rfl
theorem sy (m:bV):∀u∈Yv m,u.oneCell'=true:=by
 intro u a
 simp only[Yv,OB,List.not_mem_nil,or_false] at a
 rcases a with rfl|rfl|rfl <;> rfl
structure xa where
 hl:OC Nat
 vl:Oe
 ms:Ob bV
def xa.own (q:xa)(g:Nat):Ob Nat:=g :: (q.hl.toList++q.ms.map (·.t))
def cellsV (q:xa)(v:yI):Array Oe:=#[I v.box,q.vl,I v.had]
structure yN (w:Oc)(g:Nat)(q:xa)(v:yI):Prop where
 blk:NG w g 78 (cellsV q v)
 same:q.ms.map (·.p)=v.l
 msgs:Sl w 89 3 q.vl q.hl v.l.length (zU Yv q.ms)
 told:∀m∈q.ms,NG w m.t 145 #[I m.p.told]
 nodup:(q.ms.map (·.t)).Nodup
structure xc (w w':Oc)(g:Nat)(q:xa)(v':yI)(q':xa):Prop where
 at_:yN w' g q' v'
 N4:NH (q.own g) w w'
 own:∀k∈q'.own g,k∈q.own g∨w.heap.size≤k
def NV (t:Pa):Prop:=t=78∨t=89∨t=145
section
variable {w w' w'':Oc} {g:Nat} {q q' q'':xa} {v v' v'':yI} {S:Ob Nat}
theorem xa.ZP:g∈q.own g:=by simp[xa.own]
theorem xa.Yp {k:Nat}(h:q.hl=some k):k∈q.own g:=by simp[xa.own,h]
theorem xa.CT {m:bV}(h:m∈q.ms):m.t∈q.own g:=by
 simp only[xa.own,OB,OO,OL]
 exact .inr (.inr ⟨m,h,rfl⟩)
theorem xa.UB {k:Nat}(h:k∈q.own g):k=g∨q.hl=some k∨∃m∈q.ms,m.t=k:=by
 simp only[xa.own,OB,OO,OL,Pe] at h
 rcases h with h|h|h
 ·exact .inl h
 ·exact .inr (.inl h)
 ·exact .inr (.inr h)
theorem yN.len (h:yN w g q v):q.ms.length=v.l.length:=by
 have:=congrArg List.length h.same
 simpa using this
theorem yN.typed (h:yN w g q v){k:Nat}(hk:k∈q.own g):∃t cs,NG w k t cs∧NV t:=by
 rcases xa.UB hk with rfl|h1|⟨m,hm,rfl⟩
 ·exact⟨_,_,h.blk,.inl rfl⟩
 ·rcases h.msgs.2 with⟨h2,_⟩|⟨b,off,cap,cur,h2,_,h3,_⟩
  ·rw[h1] at h2
   cases h2
  ·rw[h1] at h2
   obtain rfl:=O6 h2
   exact⟨_,_,h3,.inr (.inl rfl)⟩
 ·exact⟨_,_,h.told m hm,.inr (.inr rfl)⟩
theorem yN.lt (h:yN w g q v){k:Nat}(hk:k∈q.own g):k < w.heap.size:=by
 obtain⟨t,b,a,_⟩:=h.typed hk
 exact a.lt
theorem yN.N4 (h:yN w g q v)(hc:NH S w w')(hS:∀k∈q.own g,k∉S):yN w' g q v:=
 ⟨h.blk.N4 hc (hS g xa.ZP),h.same,h.msgs.N4 hc (fun b hb=>hS b (xa.Yp hb)),fun m hm=>(h.told m hm).N4 hc (hS _ (xa.CT hm)),h.nodup⟩
theorem yN.later (h:yN w g q v)(hb:Od w w w'):yN w' g q v:=h.N4 (NH.of_below hb []) zv
theorem xc.refl (h:yN w g q v):xc w w g q v q:=⟨h,NH.refl _ _,fun _ h=>.inl h⟩
theorem xc.of_below (h:yN w g q v)(hb:Od w w w'):xc w w' g q v q:=⟨h.later hb,NH.of_below hb _,fun _ h=>.inl h⟩
theorem xc.trans (h:xc w w' g q v' q')(k:xc w' w'' g q' v'' q''):xc w w'' g q v'' q'':=
 ⟨k.at_,h.N4.trans k.N4 h.own,fun i hi=>by
  rcases k.own i hi with h1|h1
  ·exact h.own i h1
  ·exact .inr (Ol h.N4.size h1)⟩
theorem xc.then (h:xc w w' g q v' q')(hb:Od w' w' w''):xc w w'' g q v' q':=h.trans (xc.of_below h.at_ hb)
end
section
variable {w w' wr:Oc} {g gv:Nat} {q:zW} {x x':Acc} {qv qv':xa} {v v':yI} {q':zW}
theorem zH.noV (h:zH w g q x){k:Nat}(hk:k∈q.own g){t:Pa}{cs:Array Oe}(hB:NG w k t cs):¬NV t:=by
 obtain⟨d,b,c⟩:=h.log
 have a:∀{e:Pa} {Bj n:Nat} {u:Oe} {o:OC Nat} {xs:Ob Oe},Sl w e Bj u o n xs→o=some k→t=e:=by
  intro e Bj n u o xs hs ho
  rcases hs.2 with⟨h2,_⟩|⟨b,off,cap,cur,h2,_,h3,_⟩
  ·rw[ho] at h2
   cases h2
  ·rw[ho] at h2
   obtain rfl:=O6 h2
   exact(hB.inj h3).1
 simp only[zW.own,OB,OO,Pe] at hk
 rcases hk with rfl|rfl|(hk|hk)|hk
 ·rw[(hB.inj h.blk).1];unfold NV;decide
 ·rw[(hB.inj b).1];unfold NV;decide
 ·rw[a c hk];unfold NV;decide
 ·rw[a h.zg hk];unfold NV;decide
 ·rw[a h.zC hk];unfold NV;decide
theorem yN.stored (h:yN w gv qv v)(hs:zH w g q x)(hc:NH (q.own g) w w'):yN w' gv qv v:=
 h.N4 hc fun k hk hm=>by
  obtain⟨t,cs,hB,hT⟩:=h.typed hk
  exact hs.noV hm hB hT
theorem NN.others {S T:Ob Nat}{e:Pa}{size n:Nat}{u:Oe}{xs:Ob Oe}(hr:NN w S size u n xs)(ht:NT w e u)(hc:NH T w w')(hT:∀k∈T,∃t cs,NG w k t cs∧t≠e):NN w' S size u n xs∧NT w' e u:=by
 have d:∀(a:Addr) (c:Nat),u=RO (some a) n c→0 < n→a.block∉T:=by
  intro a c b g f
  obtain⟨t,cs,h,o⟩:=hT _ f
  obtain⟨q,i⟩:=ht a n c b g
  exact o (h.inj i).1
 refine⟨⟨hr.1,?_⟩,?_⟩
 ·rcases hr.2 with h0|⟨a,cap,b,h1,h2,h3⟩
  ·exact .inl h0
  ·refine .inr ⟨a,cap,b,h1,h2,fun g=>?_⟩
   obtain⟨r,p,s,v⟩:=h3 g
   refine⟨r,OJ p hc.size,s,fun j hj=>?_⟩
   rw[←v j hj]
   exact PU (hc.block a.block p (d a cap b g))
 ·intro a m c b f
  obtain⟨cs,h⟩:=ht a m c b f
  have l:m=n:=by
   rcases hr.2 with⟨h0,_⟩|⟨a',cap,h0,_⟩
   ·rw[h0] at b
    cases b
   ·rw[h0] at b
    injection b with _ h5 _
    exact h5.symm
  subst l
  exact⟨cs,h.N4 hc (d a c b f)⟩
theorem zH.viewed (h:zH w g q x){T:Ob Nat}(hc:NH T w w')(hT:∀k∈T,∃t cs,NG w k t cs∧NV t):zH w' g q x:=by
 have a:∀k∈q.own g,k∉T:=fun k hk hm=>by
  obtain⟨t,cs,d,f⟩:=hT k hm
  exact h.noV hk d f
 have b:∀e:Pa,¬NV e→∀k∈T,∃t cs,NG w k t cs∧t≠e:=fun e he k hk=>by
  obtain⟨t,cs,d,f⟩:=hT k hk
  exact⟨t,cs,d,fun h=>he (h ▸ f)⟩
 refine⟨h.blk.N4 hc (a g zW.ZP),h.log.N4 hc (a _ zW.J4) (fun k hk=>a k (zW.Yp hk)),h.zg.N4 hc (fun k hk=>a k (zW.Yo hk)),h.same,h.zC.N4 hc (fun k hk=>a k (zW.Z5 hk)),fun m hm=>?_⟩
 have c:=h.parts m hm
 obtain⟨i,j⟩:=c.keys.others c.tk hc (b _ ZY)
 obtain⟨l,n⟩:=c.mem.others c.tm hc (b _ ZY)
 exact⟨i,l,j,n⟩
theorem zH.vturned (h:zH w g q x)(hv:yN w gv qv v)(k:xc w w' gv qv v' qv'):zH w' g q x:=h.viewed k.N4 fun _ hk=>hv.typed hk
structure xN (w wr:Oc)(gv:Nat)(qv:xa)(v:yI):Prop where
 at_:yN wr gv qv v
 own:∀k∈qv.own gv,w.heap.size≤k
theorem xN.later (h:xN w wr gv qv v)(hb:Od wr wr w'):xN w w' gv qv v:=⟨h.at_.later hb,h.own⟩
theorem xN.stored (h:xN w wr gv qv v)(hs:zH wr g q x)(k:zL wr w' g q x' q'):xN w w' gv qv v:=⟨h.at_.stored hs k.N4,h.own⟩
theorem xN.turned (h:xN w wr gv qv v)(hz:w.heap.size≤wr.heap.size)(k:xc wr w' gv qv v' qv'):xN w w' gv qv' v':=⟨k.at_,fun i hi=>by
 rcases k.own i hi with h1|h1
 ·exact h.own i h1
 ·exact Ol hz h1⟩
theorem yP.viewed (h:yP w wr g q x)(hv:xN w wr gv qv v)(k:xc wr w' gv qv v' qv'):yP w w' g q x:=
 ⟨h.at_.vturned hv.at_ k,h.below.trans (k.N4.below h.below.size hv.own),h.own⟩
end
section
variable {w w0 w':Oc} {g:Nat} {q:xa} {v:yI}
theorem yN.Nx (h:yN w g q v):q.hl≠some g:=fun e=>h.msgs.vu h.blk zD g e rfl
theorem yN.t_hl (h:yN w g q v){k:Nat}{cs:Array Oe}(hB:NG w k 145 cs):q.hl≠some k:=fun e=>h.msgs.vu hB zD k e rfl
theorem yN.t_g (h:yN w g q v){k:Nat}{cs:Array Oe}(hB:NG w k 145 cs):k≠g:=hB.ne h.blk zD
theorem yN.push (h:yN w g q v)(hb:Od w0 w0 w)(hv0:yN w0 g q v)(m:bV)(hm:NG w m.t 145 #[I m.p.told])(hnew:w0.heap.size≤m.t){v2:Oe}{h2:OC Nat}(hs:Sl w' 89 3 v2 h2 (v.l.length+1) (zU Yv q.ms++Yv m))(hc:NH q.hl.toList w w')(ho:h2=q.hl∨∃k,h2=some k∧w.heap.size≤k) :
  xc w0 (w'.setCell (Y g 1) v2) g q {v with l:=v.l++[m.p]} ⟨h2,v2,q.ms++[m]⟩:=by
 have j:g∉q.hl.toList:=fun hm=>h.Nx yT
 have i:h2≠some g:=fun e=>by
  rcases ho with h3|⟨k,h3,h4⟩
  ·exact h.Nx (h3 ▸ e)
  ·rw[h3] at e
   obtain rfl:=O6 e
   have:=h.blk.lt
   omega
 have n:∀y:bV,y∈q.ms++[m]→NG w y.t 145 #[I y.p.told]:=fun y c=>by
  rcases OO.1 c with h3|h3
  ·exact h.told y h3
  ·rw[OI.1 h3]
   exact hm
 refine⟨⟨(h.blk.N4 hc j).set 1 v2,?_,?_,fun y c=>?_,?_⟩,?_,?_⟩
 ·rw[OQ,h.same]
  rfl
 ·rw[uI]
  show Sl _ _ 3 v2 h2 (v.l++[m.p]).length _
  rw[Oo]
  exact hs.far (p:=⟨g,1,none⟩) i _
 ·exact((n y c).N4 hc (fun hm2=>h.t_hl (n y c) (by simpa using hm2))).far (p:=⟨g,1,none⟩) (h.t_g (n y c)) _
 ·rw[OQ,P6]
  refine⟨h.nodup,zv,?_⟩
  intro a o b f e
  obtain⟨y,c,rfl⟩:=OL.1 o
  rw[List.map_singleton,OI] at f
  have:=hv0.lt (xa.CT c)
  omega
 ·refine((NH.of_below hb (q.own g)).trans (hc.mono fun k hk=>.inl ?_) (fun k hk=>.inl hk)).set (.inl xa.ZP) v2
  exact xa.Yp yi
 ·intro k hk
  rcases xa.UB hk with rfl|h3|⟨y,c,rfl⟩
  ·exact .inl xa.ZP
  ·have d:h2=some k:=h3
   rcases ho with h4|⟨k2,h4,h5⟩
   ·exact .inl (xa.Yp (h4 ▸ d))
   ·rw[h4] at d
    obtain rfl:=O6 d
    exact .inr (Ol hb.size h5)
  ·rcases OO.1 c with h4|h4
   ·exact .inl (xa.CT h4)
   ·rw[OI.1 h4]
    exact .inr hnew
theorem yN.setHad (h:yN w g q v)(u:Int):xc w (w.setCell (Y g 2) (I u)) g q {v with had:=u} q:=by
 refine⟨⟨h.blk.set 2 _,h.same,h.msgs.far (p:=⟨g,2,none⟩) h.Nx _,fun m hm=>(h.told m hm).far (p:=⟨g,2,none⟩) (h.t_g (h.told m hm)) _,h.nodup⟩,(NH.refl (q.own g) w).set (p:=⟨g,2,none⟩) (.inl xa.ZP) _,fun k hk=>.inl hk⟩
theorem yN.fD (h:yN w g q v)(l:Ob bV)(hl:∀m∈l,m∈q.ms)(hn:(l.map (·.t)).Nodup){v2:Oe}(hs:Sl w' 89 3 v2 q.hl l.length (zU Yv l))(hc:NH q.hl.toList w w') :
  xc w (w'.setCell (Y g 1) v2) g q {v with l:=l.map (·.p)} ⟨q.hl,v2,l⟩:=by
 have a:g∉q.hl.toList:=fun hm=>h.Nx yT
 refine⟨⟨(h.blk.N4 hc a).set 1 v2,rfl,?_,fun y hy=>?_,hn⟩,?_,?_⟩
 ·show Sl _ _ 3 v2 q.hl (l.map (·.p)).length _
  rw[Ow]
  exact hs.far (p:=⟨g,1,none⟩) h.Nx _
 ·have b:=h.told y (hl y hy)
  exact(b.N4 hc (fun hm2=>h.t_hl b (by simpa using hm2))).far (p:=⟨g,1,none⟩) (h.t_g b) _
 ·exact(hc.mono (T:=q.own g) fun k hk=>.inl (xa.Yp yi)).set (.inl xa.ZP) v2
 ·intro k hk
  rcases xa.UB hk with rfl|h3|⟨y,hy,rfl⟩
  ·exact .inl xa.ZP
  ·exact .inl (xa.Yp h3)
  ·exact .inl (xa.CT (hl y hy))
def bV.set (m:bV)(u:Int):bV:=⟨{m.p with told:=u},m.t⟩
theorem Un:∀(l:Ob bV) (i:Nat) (hi:i < l.length) (u:Int),zU Yv (l.set i (l[i].set u))=zU Yv l
 |m :: r,0,_,u=>rfl
 |m :: r,i+1,hi,u=>by
  have ih:=Un r i vq u
  simp only[List.set_cons_succ,List.getElem_cons_succ]
  unfold zU at ih ⊢
  rw[RD,RD,ih]
theorem yN.Q5 (h:yN w g q v)(i:Nat)(hi:i < q.ms.length)(hi2:i < v.l.length)(u:Int) :
  xc w (w.setCell (Y (q.ms[i].t) 0) (I u)) g q {v with l:=v.l.set i {v.l[i] with told:=u}} ⟨q.hl,q.vl,q.ms.set i (q.ms[i].set u)⟩:=by
 have c:=h.told q.ms[i] (Oj hi)
 have r:q.ms[i].p=v.l[i]:=by
  have m:=h.same
  have d:(q.ms.map (·.p))[i]?=v.l[i]?:=by rw[m]
  rw[O5,Ot hi,Ot hi2] at d
  exact O6 d
 have b:(q.ms.set i (q.ms[i].set u)).map (·.t)=q.ms.map (·.t):=by
  rw[List.map_set]
  have:(q.ms[i].set u).t=(q.ms.map (·.t))[i]' vq:=by simp[bV.set]
  rw[this,List.set_getElem_self]
 refine⟨⟨h.blk.far (p:=⟨q.ms[i].t,0,none⟩) (fun e=>h.t_g c e.symm) _,?_,?_,?_,?_⟩,(NH.refl _ w).set (.inl (xa.CT (Oj hi))) _,?_⟩
 ·rw[List.map_set,h.same]
  show v.l.set i (q.ms[i].set u).p=_
  unfold bV.set
  rw[r]
 ·show Sl _ _ 3 q.vl q.hl (v.l.set i _).length _
  rw[Pd,Un]
  exact h.msgs.far (p:=⟨q.ms[i].t,0,none⟩) (fun e=>h.t_hl c e) _
 ·intro y s
  obtain⟨j,hj,rfl⟩:=Pg s
  have a:j < q.ms.length:=vL
  by_cases e:i=j
  ·subst e
   rw[Ph]
   exact c.set 0 _
  ·rw[List.getElem_set_ne e]
   refine(h.told q.ms[j] (Oj a)).far (p:=⟨q.ms[i].t,0,none⟩) (fun e2=>e ?_) _
   have n:=h.nodup
   have o:(q.ms.map (·.t))[j]'(by simpa using a)=(q.ms.map (·.t))[i]' vq:=by simpa using e2
   exact((List.getElem_inj n).1 o).symm
 ·show ((q.ms.set i (q.ms[i].set u)).map (·.t)).Nodup
  rw[b]
  exact h.nodup
 ·intro k f
  refine .inl ?_
  have e:(⟨q.hl,q.vl,q.ms.set i (q.ms[i].set u)⟩:xa).own g=q.own g:=by
   unfold xa.own
   rw[b]
  rw[e] at f
  exact f
end
end
section
open Go.Shelf Go.RowKit Go.Lib
structure NQ where
 u:Int
 p:zR
 ka:OC Addr
 kc:Nat
 ma:OC Addr
 mc:Nat
instance:Inhabited NQ:=⟨⟨0,default,none,0,none,0⟩⟩
def NQ.m (z:NQ):xd:=⟨z.p,RO z.ka z.p.keys.length z.kc,RO z.ma z.p.zr.length z.mc⟩
def NQ.z (z:NQ):Int×zR:=(z.u,z.p)
def vI (z:NQ):Ob Oe:=I z.u :: xV z.m
theorem vV (z:NQ):(vI z).length=9:=rfl
theorem AX (z:NQ):∀v∈vI z,v.oneCell'=true:=by
 intro v a
 simp only[vI,xV,NQ.m,OB,List.not_mem_nil,or_false] at a
 rcases a with rfl|rfl|rfl|rfl|rfl|rfl|rfl|rfl|rfl <;> rfl
structure uY (w:Oc)(v:Oe)(zs:Ob NQ):Prop where
 rd:NN w [] 9 v zs.length (zU vI zs)
 ty:NT w 85 v
 parts:∀z∈zs,xB w [] z.m
structure uB (E:Pa→Prop)(w w':Oc):Prop where
 size:w.heap.size≤w'.heap.size
 block:∀k t cs,E t→NG w k t cs→NG w' k t cs
section
variable {E:Pa→Prop} {w w' w'':Oc} {S:Ob Nat} {e:Pa} {size n:Nat} {v:Oe} {xs:Ob Oe}
theorem uB.refl (w:Oc):uB E w w:=⟨Oq _,fun _ _ _ _ h=>h⟩
theorem uB.trans (h:uB E w w')(k:uB E w' w''):uB E w w'':=⟨Ol h.size k.size,fun b t cs ht hB=>k.block b t cs ht (h.block b t cs ht hB)⟩
theorem uB.of_below (h:Od w w w'):uB E w w':=⟨h.size,fun _ _ _ _ hB=>hB.below h hB.lt⟩
theorem uB.dA (hc:NH S w w')(hS:∀k∈S,∃t cs,NG w k t cs∧¬E t):uB E w w':=⟨hc.size,fun k t cs ht hB=>hB.N4 hc fun hm=>by
 obtain⟨t',cs',hB',hn⟩:=hS k hm
 exact hn ((hB.inj hB').1 ▸ ht)⟩
theorem uB.others {b:Nat}{T u:Pa}{cs:Array Oe}(h:Lib.OthersKept u (some b) w w')(hb:NG w b T cs)(hz:w.heap.size≤w'.heap.size)(hu:¬E u)(hT:¬E T):uB E w w':=⟨hz,fun k t cs' ht hB=>by
 have h1:=h k _ hB (by
  intro e
  cases e
  exact hT ((hB.inj hb).1 ▸ ht)) (by
  intro c fz e
  cases e
  exact hu ht)
 exact h1⟩
theorem NN.Xo (hr:NN w [] size v n xs)(ht:NT w e v)(hk:uB E w w')(he:E e):NN w' [] size v n xs∧NT w' e v:=by
 refine⟨⟨hr.1,?_⟩,?_⟩
 ·rcases hr.2 with h0|⟨a,cap,d,h1,h2,h3⟩
  ·exact .inl h0
  ·refine .inr ⟨a,cap,d,h1,h2,fun hn=>?_⟩
   obtain⟨h,i,k,l⟩:=h3 hn
   obtain⟨f,b⟩:=ht a n cap d hn
   refine⟨h,OJ i hk.size,k,fun j hj=>?_⟩
   rw[←l j hj,b.cell,(hk.block _ _ _ he b).cell]
 ·intro a m c d g
  obtain⟨f,b⟩:=ht a m c d g
  exact⟨f,hk.block _ _ _ he b⟩
theorem xB.Xo {m:xd}(h:xB w [] m)(hk:uB E w w')(h1:E 9)(h2:E 153):xB w' [] m:=by
 obtain⟨a,b⟩:=h.keys.Xo h.tk hk h1
 obtain⟨c,d⟩:=h.mem.Xo h.tm hk h2
 exact⟨a,c,b,d⟩
theorem uY.Xo {zs:Ob NQ}(h:uY w v zs)(hk:uB E w w')(h1:E 9)(h2:E 153)(h3:E 85):uY w' v zs:=by
 obtain⟨a,b⟩:=h.rd.Xo h.ty hk h3
 exact⟨a,b,fun z hz=>(h.parts z hz).Xo hk h1 h2⟩
theorem uY.later {zs:Ob NQ}(h:uY w v zs)(hb:Od w w w'):uY w' v zs:=h.Xo (uB.of_below (E:=fun _=>True) hb) trivial trivial trivial
theorem yN.Xo {g:Nat}{q:xa}{x:yI}(h:yN w g q x)(hk:uB E w w')(hE:∀t,NV t→E t):yN w' g q x:=by
 refine⟨hk.block _ _ _ (hE _ (.inl rfl)) h.blk,h.same,?_,fun m hm=>hk.block _ _ _ (hE _ (.inr (.inr rfl))) (h.told m hm),h.nodup⟩
 refine h.msgs.keep fun b hb=>?_
 rcases h.msgs.2 with⟨h2,_⟩|⟨b',off,cap,cur,h2,_,h3,_⟩
 ·rw[hb] at h2
  cases h2
 ·rw[hb] at h2
  obtain rfl:=O6 h2
  exact(hk.block _ _ _ (hE _ (.inr (.inl rfl))) h3).trans h3.symm
end
end
section
open Go.Shelf Go.RowKit Go.Lib Go.Sort
attribute [local go_sem ↓] Go.wp_at_zero Go.wp_at_succ
theorem DU (x y:NQ)(W:Oc):C 85 #[.agg (vI x).toArray,.agg (vI y).toArray] W fun e w'=>e=RR (I (N0 NQ.u x y))∧∃q os',w'=grow (W.drewN q) os':=by
 obtain⟨b,j,f,h,g,i⟩:=x
 obtain⟨c,p,k,n,l,o⟩:=y
 unfold N0
 simp only
 obtain⟨d,a⟩:∃r,Ra b c=r:=⟨_,rfl⟩
 have Fj:=fun W=>qC b c W
 rw[a] at Fj ⊢
 clear a
 simp only[vI,xV,NQ.m,Qh]
 go_enter func85,ntmps85
 exact EI
theorem wK (blk off size:Nat)(w:Oc):CmpLays prog 85 #[] vI 9 (N0 NQ.u) blk off size w:=
 fun _ _ _ _ x y=>DU x y _
shelf_lay_g SlLaysF0.n6 Slsf 6 at Tryz 84 as Tryz.sortTh
theorem wG (w:Oc)(A:Addr)(cap:Nat)(h:OC Nat)(l:Ob NQ)(hs:Sl w 85 9 (RO (some A) l.length cap) h l.length (zU vI l))(m:Ob (Int×zR))(hp:m.Perm (l.map NQ.z))(hm:(m.map (·.1)).Pairwise (· < ·))(hn:l.length≤1099511627776) :
  C 84 #[RO (some A) l.length cap,.func (.func 85) #[] #[]] w fun e w'=>e=RR (.tuple #[])∧∃l':Ob NQ,l'.Perm l∧l'.map NQ.z=m∧Sl w' 85 9 (RO (some A) l.length cap) h l.length (zU vI l')∧NH h.toList w w':=by
 rcases hs.2 with⟨_,hv,_⟩|⟨b,off,cap',cur,rfl,hv,hB,hnc,hcm,hcs,ht⟩
 ·cases hv
 ·injection hv with hv1 _ hv3
  injection hv1 with hv1
  subst hv1 hv3
  have k:=hs
  rw[←Xf vI 9 O vV l] at k
  have t:∀args w,(callFunc 85 args).run prog w=.ok (.enter 85 args) w:=O9 func85 zQ rfl
  have r:=AnyQ.slices_SortFunc Tryz.sortTh 9 Tryz.isAgg85 Tryz.sizeOf85 vI vV AX (N0 NQ.u) (swoG _) 85 #[] b off cap l.toArray w t (wK b off _ w) k.LO hB.lt zT
  have g:l.toArray.size=l.length:=zv
  rw[g] at r
  refine r.mono ?_
  rintro e w' ⟨rfl,d',q,x,p,hS,rfl⟩
  have d:d'.toList.Perm l:=by
   obtain⟨n,_,c⟩:=p
   have s:d'.extract 0 l.length=d':=by rw[←g,←n];exact Rx
   rw[s,←g,Rx] at c
   exact c
  have f:d'.toList.Pairwise fun a b=>a.u≤b.u:=by
   rw[PF]
   intro i j hi hj Fg
   have Fh:i < d'.size:=vq
   have wu:j < d'.size:=vL
   have n:=p.1
   exact Nn
  have n:d'.toList.map NQ.z=m:=J6 (fun z:Int×zR=>z.1) ((d.map NQ.z).trans hp.symm) (P0.2 (f.imp fun h=>h)) (P0.1 hm)
  have v:d'.toList.length=l.length:=d.length_eq
  refine⟨rfl,d'.toList,d,n,?_,iY _ _ _ _ _ _⟩
  have o:=hs.CX q (flatK vI 9 d'.toList.toArray) (by simp[←v]) x
  rw[Xf vI 9 O vV] at o
  exact o
theorem Try.infoThere:(prog.info? 85).map (fun i=>(i.zero,i.size,i.bytes))=some (some (.agg #[I 0,I 0,I 0,RP ⟨#[]⟩,I 0,RO none 0 0,RO none 0 0,I 0,I 0]),9,112):=zQ
def XA (box:Int)(m:zR)(j:Nat):Ob (Int×zR):=((m.zr.take j).filter fun p=>decide (p.1=box)).map fun p=>(p.2,m)
theorem s4 (box:Int)(m:zR):XA box m 0=[]:=rfl
theorem BO (box:Int)(m:zR)(j:Nat)(h:j=m.zr.length):XA box m j=(m.zr.filter fun p=>decide (p.1=box)).map fun p=>(p.2,m):=by
 subst h
 unfold XA
 rw[List.take_length]
theorem BP {box:Int}{m:zR}{j:Nat}{p:Int×Int}(h:m.zr[j]?=some p)(hb:p.1=box):XA box m (j+1)=XA box m j++[(p.2,m)]:=by
 obtain⟨b,a⟩:=OX.1 h
 unfold XA
 rw[Oh b,a,List.filter_append,OQ,PM xQ]
 rfl
theorem KY {box:Int}{m:zR}{j:Nat}{p:Int×Int}(h:m.zr[j]?=some p)(hb:p.1≠box):XA box m (j+1)=XA box m j:=by
 obtain⟨b,a⟩:=OX.1 h
 unfold XA
 rw[Oh b,a,List.filter_append,OQ,List.filter_cons_of_neg xQ]
 simp
theorem aD (ms:Ob zR)(box:Int)(k:Nat)(m:zR)(h:ms[k]?=some m):vW (ms.take (k+1)) box=vW (ms.take k) box++XA box m m.zr.length:=by
 obtain⟨b,a⟩:=OX.1 h
 unfold vW
 rw[Oh b,a,List.flatMap_append,BO box m _ rfl]
 simp
theorem wL (ms:Ob zR)(box:Int)(k:Nat)(m:zR)(j:Nat)(h:ms[k]?=some m):(vW (ms.take k) box++XA box m j).length≤(vW ms box).length:=by
 have a:=aD ms box k m h
 have b:vW ms box=vW (ms.take (k+1)) box++vW (ms.drop (k+1)) box:=by
  unfold vW
  rw[←List.flatMap_append,List.take_append_drop]
 have c:(XA box m j).length≤(XA box m m.zr.length).length:=by
  unfold XA
  rw[Ow,Ow,List.take_length]
  exact((List.take_sublist j m.zr).filter _).length_le
 rw[b,a]
 simp only[Oo]
 omega
structure NX (w wr:Oc)(o:Oe)(done:Ob (Int×zR))(n:Nat):Prop where
 below:Od w w wr
 o:∃(h:OC Nat) (zs:Ob NQ),n=zs.length∧Sl wr 85 9 o h zs.length (zU vI zs)∧zs.map NQ.z=done∧(∀b,h=some b→w.heap.size≤b)∧∀z∈zs,xB wr [] z.m
theorem NX.later {w wr W:Oc}{o:Oe}{done:Ob (Int×zR)}{n:Nat}(h:NX w wr o done n)(hb:Od wr wr W):NX w W o done n:=by
 obtain⟨c,i,e,a,g,d,f⟩:=h.o
 exact⟨zj h.below hb,c,i,e,a.keep (fun b hb2=>hb.block b (a.lt b hb2)),g,d,fun z hz2=>(f z hz2).Xo (uB.of_below (E:=fun _=>True) hb) trivial trivial⟩
theorem NX.push {w wr W2:Oc}{o o2:Oe}{done:Ob (Int×zR)}{n:Nat}{h1 h2:OC Nat}{zs:Ob NQ}(z:NQ)(hB:Od w w wr)(hn:n=zs.length)(hz:zs.map NQ.z=done)(hf:∀b,h1=some b→w.heap.size≤b)(hp:∀z∈zs,xB wr [] z.m)(hpz:xB wr [] z.m)(hs1:Sl wr 85 9 o h1 zs.length (zU vI zs))(hs2:Sl W2 85 9 o2 h2 (zs.length+1) (zU vI zs++vI z))(hc:NH h1.toList wr W2)(ho:h2=h1∨∃g,h2=some g∧wr.heap.size≤g):NX w W2 o2 (done++[z.z]) (n+1):=by
 have hk:uB (fun t=>t≠85) wr W2:=uB.dA hc (fun k hk=>by
  have a:h1=some k:=yi
  rcases hs1.2 with⟨h3,_⟩|⟨b,off,cap,cur,h3,_,hB3,_⟩
  ·rw[a] at h3
   cases h3
  ·rw[a] at h3
   obtain rfl:=O6 h3
   exact⟨_,_,hB3,fun h=>h rfl⟩)
 refine⟨hB.trans (hc.below hB.size (fun k hk=>hf k yi)),h2,zs++[z],by rw[Oo,hn];rfl,?_,by rw[OQ,hz];rfl,fun b hb=>?_,fun y hy=>?_⟩
 ·rw[uI,Oo]
  exact hs2
 ·rcases ho with h3|⟨g2,h3,h4⟩
  ·exact hf b V2
  ·rw[h3] at hb
   injection hb with hb
   have:=hB.size
   omega
 ·have c:xB wr [] y.m:=by
   rcases OO.1 hy with h5|h5
   ·exact hp y h5
   ·rw[OI] at h5
    rw[h5]
    exact hpz
  exact c.Xo hk zD zD
structure MsSt (w:Oc)(v:Oe)(ms:Ob xd)(l:Ob zR):Prop where
 same:ms.map (·.p)=l
 rd:NN w [] 8 v ms.length (zU xV ms)
 parts:∀m∈ms,xB w [] m
theorem MsSt.later {w w':Oc}{v:Oe}{ms:Ob xd}{l:Ob zR}(h:MsSt w v ms l)(hb:Od w w w'):MsSt w' v ms l:=
 ⟨h.same,h.rd.below hb,fun m hm=>(h.parts m hm).Xo (uB.of_below (E:=fun _=>True) hb) trivial trivial⟩
theorem VX (w:Oc)(g:Nat)(q:zW)(x:Acc)(h:zH w g q x)(hn:Qt x)(box:Int)(zs:Ob (Int×zR))(hp:zs.Perm (vW x.zC box))(hr:(zs.map (·.1)).Pairwise (· < ·))(hz:zs.length≤1099511627776) :
  C 33 #[Y g 0,I box] w fun e w'=>∃(v:Oe) (l:Ob NQ),e=RR v∧l.map NQ.z=zs∧uY w' v l∧Od w w w':=by
 obtain⟨i0,hi,cb,cc,cd⟩:=info_parts Try.infoThere
 have hM:=cP w g q x h hn [] zv
 obtain⟨n,a3⟩:∃n,x.zC.length=n:=⟨_,rfl⟩
 rw[a3] at hM
 have c9:=hn.1
 rw[a3] at c9
 have R:=hn.2
 have HP:=V hp
 have HR:=V hr
 have HZ:=V hz
 have c3:=V R
 have ai:=V a3
 clear h hn hp hr hz R a3
 go_enter func33,ntmps33
 go_wp2_with (first
  |(go_at_call 53;refine hM.mono ?_;rintro e w1 ⟨A1,c1,rfl,⟨ms,bo,bt,bs⟩,G⟩;have X:Z (MsSt w1 (RO A1 n c1) ms x.zC):=V ⟨bo,bt,bs⟩;have bz:=V G;clear hM bo bt bs G)
  |fail)
 have c7:ms.length=n:=by rw[←ai.o,←X.o.same,Ow]
 have bc:Z (NX w1 w1 (RO none 0 0) (vW (x.zC.take 0) box) 0):=V ⟨Ok _ _,none,[],rfl,Sl.nil _ _ _,by simp[vW],fun b hb=>(by cases hb),fun z hz=>(by cases hz)⟩
 go_loopw [5,13] (fun o i wr=>∃k m:Nat,k≤n∧i=I k∧Z (NX w1 wr o (vW (x.zC.take k) box) m)) (fun _ i _=>n - (intOf i).toNat)
 case atStart=>exact⟨0,0,OE _,rfl,bc⟩
 case round=>
  clear bc
  obtain⟨k,m,hk,rfl,L⟩:=hrel
  have aa:=V (X.o.later L.o.below)
  by_cases cp:k < n
  ·have bl:(k:Int) < (n:Int):=O
   have cn:(0:Int)≤(k:Int):=O
   have co:Ov.wrap ((k:Int)+1)=(k:Int)+1:=Og _ O
   have P:k < ms.length:=O
   obtain⟨d,Q⟩:∃d,ms[k]=d:=⟨_,rfl⟩
   obtain⟨b,s,ag,hv,_,_,cj,_,am⟩:=aa.o.rd.at_ O
   rw[c7] at hv am
   injection hv with hv3 _ hv4
   subst hv3 hv4
   have f:∀j,j < 8→wr.cell? (Y b (s+k * 8+j))=(xV d)[j]?:=fun j hj=>by
    rw[O1,am _ O,yv xr ms k j P hj,Q]
   have F:=aa.o.parts d (by rw[←Q];exact Oj P)
   have a5:x.zC[k]?=some d.p:=by
    rw[←X.o.same,O5,Ot P,Q]
    rfl
   have R:=c3.o d.p (List.mem_of_getElem? a5)
   have T:=aD x.zC box k d.p a5
   obtain⟨Ak,ck,ap,_,_⟩:=F.keys.form
   obtain⟨Av,cv,au,_,_⟩:=F.mem.form
   obtain⟨H,a2⟩:∃H,d.p.zr.length=H:=⟨_,rfl⟩
   have e0:wr.cell? (Y b (s+k * 8))=some (I d.p.id):=f 0 O
   have e1:wr.cell? (Y b (s+k * 8+1))=some (I d.p.thread):=f 1 O
   have e2:wr.cell? (Y b (s+k * 8+2))=some (RP ⟨d.p.text.toArray⟩):=f 2 O
   have e3:wr.cell? (Y b (s+k * 8+3))=some (I d.p.at_):=f 3 O
   have e4:wr.cell? (Y b (s+k * 8+4))=some (RO Ak d.p.keys.length ck):=by rw[←ap];exact f 4 O
   have e5:wr.cell? (Y b (s+k * 8+5))=some (RO Av H cv):=by rw[←a2,←au];exact f 5 O
   have e6:wr.cell? (Y b (s+k * 8+6))=some (I d.p.mod):=f 6 O
   have e7:wr.cell? (Y b (s+k * 8+7))=some (I d.p.born):=f 7 O
   have cg:H≤1099511627776:=by rw[←a2];exact R.2
   have W:=V (NG.new wr 83 #[I d.p.id,I d.p.thread,Oa d.p.text,I d.p.at_,RO Ak d.p.keys.length ck,RO Av H cv,I d.p.mod,I d.p.born])
   have ae:=V (L.o.later (zt wr (.cells #[I d.p.id,I d.p.thread,Oa d.p.text,I d.p.at_,RO Ak d.p.keys.length ck,RO Av H cv,I d.p.mod,I d.p.born] 83)))
   have a6:Z (d∈ms):=V (by rw[←Q];exact Oj P)
   have a9:=fun j=>wL x.zC box k d.p j a5
   have ba:=V a9
   have b':=V ap
   have b9:=V au
   have a0:=V a2
   have ad:=V T
   obtain⟨B,al⟩:∃B,wr.heap.size=B:=⟨_,rfl⟩
   clear am f F a5 R a9 T ap au a2 Q L aa P
   go_upto_block 2 with(fail)
   rw[al] at W
   obtain⟨wo,aw⟩:∃wo:Oc,wo=wr.alloc (.cells #[I d.p.id,I d.p.thread,Oa d.p.text,I d.p.at_,RO Ak d.p.keys.length ck,RO Av H cv,I d.p.mod,I d.p.born] 83):=⟨_,rfl⟩
   rw[←aw] at W ae
   try rw[←aw]
   try rw[al]
   clear e0 e1 e2 e3 e4 e5 e6 e7 aw al
   have b8:Z (NX w1 wo u5 (vW (x.zC.take k) box++XA box d.p 0) m):=V (by rw[s4,Pr];exact ae.o)
   clear ae
   go_wp2_with fail
   go_loopw [5,20] (fun o i wr=>∃j U:Nat,j≤H∧i=I j∧Z (NX w1 wr o (vW (x.zC.take k) box++XA box d.p j) U)∧Z (NG wr B 83 #[I d.p.id,I d.p.thread,Oa d.p.text,I d.p.at_,RO Ak d.p.keys.length ck,RO Av H cv,I d.p.mod,I d.p.born])) (fun _ i _=>H - (intOf i).toNat)
   case atStart=>exact⟨0,m,OE _,rfl,b8,W⟩
   case round=>
    clear b8 W
    obtain⟨j,U,hj,rfl,L,HB⟩:=hrel
    have HM:=V (X.o.later L.o.below)
    by_cases bk:j < H
    ·have ar:(j:Int) < (H:Int):=O
     have cl:(0:Int)≤(j:Int):=O
     have cm:Ov.wrap ((j:Int)+1)=(j:Int)+1:=Og _ O
     have F:=HM.o.parts d a6.o
     have ao:j < d.p.zr.length:=by rw[a0.o];exact bk
     obtain⟨p,hp⟩:∃p,d.p.zr[j]=p:=⟨_,rfl⟩
     obtain⟨b2,u,ce,bw,_,_,cf,_,f⟩:=F.mem.at_ O
     rw[b9.o,a0.o] at bw
     injection bw with hv5 _ hv6
     subst hv5 hv6
     have d0:wr.cell? (Y b2 (u+j * 2))=some (I p.1):=by
      rw[←Nat.add_zero (u+j * 2),O1,f _ O,yv yG _ j 0 ao O,hp]
      rfl
     have d1:wr.cell? (Y b2 (u+j * 2+1))=some (I p.2):=by
      rw[O1,f _ O,yv yG _ j 1 ao O,hp]
      rfl
     have a4:d.p.zr[j]?=some p:=by rw[Ot ao,hp]
     have ci:=HB.o.lt
     by_cases hc:p.1=box
     ·have f1:(p.1==box)=true:=vM
      have bh:=BP (m:=d.p) a4 hc
      obtain⟨bb,h0,zl,bx,av,az,be,a8⟩:=L.o
      obtain⟨A0,c0,rfl,_,_⟩:=av.form
      have cq:zl.length≤1099511627776:=by
       have h1:=congrArg List.length az
       rw[Ow] at h1
       have h2:=ba.o j
       have D:=HP.o.length_eq
       have h4:=HZ.o
       omega
      have a7:=zj bb (zt wr (.cells #[I p.1,I p.2] 153))
      have c2:=V (HM.o.later (zt wr (.cells #[I p.1,I p.2] 153)))
      have r:=V (HB.o.alloc (.cells #[I p.1,I p.2] 153))
      have b0:=r.o.cell 0
      have b1:=r.o.cell 1
      have ch:=r.o.cell 2
      have b3:=r.o.cell 3
      have b4:=r.o.cell 4
      have b5:=r.o.cell 5
      have b6:=r.o.cell 6
      have b7:=r.o.cell 7
      have ac:=V (av.alloc (.cells #[I p.1,I p.2] 153))
      have ab:Z (∀W2 (o2:Oe) (h2:OC Nat),Sl W2 85 9 o2 h2 (zl.length+1) (zU vI zl++vI ⟨p.2,d.p,Ak,ck,some ⟨b2,u,none⟩,cv⟩)→NH h0.toList (wr.alloc (.cells #[I p.1,I p.2] 153)) W2→(h2=h0∨∃g,h2=some g∧(wr.alloc (.cells #[I p.1,I p.2] 153)).heap.size≤g)→NX w1 W2 o2 (vW (x.zC.take k) box++XA box d.p (j+1)) (U+1)):=V (fun W2 o2 h2 k1 k2 k3=>by
       have c8:(⟨p.2,d.p,Ak,ck,some ⟨b2,u,none⟩,cv⟩:NQ).m=d:=by
        have e1:=b'.o
        have e2:=b9.o
        unfold NQ.m
        simp only
        rw[←e1,←e2]
       have h9:=NX.push (⟨p.2,d.p,Ak,ck,some ⟨b2,u,none⟩,cv⟩:NQ) a7 bx az be (fun z hz=>(a8 z hz).Xo (uB.of_below (E:=fun _=>True) (zt _ _)) trivial trivial) (by rw[c8];exact c2.o.parts d a6.o) ac.o k1 k2 k3
       rw[bh,←O4]
       exact h9)
      clear f F a4 hc hp bb bx av az be a8 bh a7 L HM HB
      go_wp2_with (first
       |(at_builtin;refine xI rfl _ _ 79 rfl underlying79 hi cb cc cd rfl zD ac.o rfl (wr.heap.size+1) zv 1 1 rfl rfl ?_ ?_ ?_ ?_)
       |fail)
      ·simp[Value.oneCell']
      ·unfold maxLen
       omega
      ·omega
      ·intro v5 h5 w5 bu an lu
       have y:=V (ab.o w5 v5 h5 (by have h7:=bu;rw[←a0.o] at h7;exact h7) an aV)
       have bd:uB (fun t=>t≠85) (wr.alloc (.cells #[I p.1,I p.2] 153)) w5:=uB.dA an (fun k hk=>by
        have N:h0=some k:=yi
        rcases ac.o.2 with⟨D,_⟩|⟨b,s,ag,cur,D,_,hB3,_⟩
        ·rw[N] at D
         cases D
        ·rw[N] at D
         obtain rfl:=O6 D
         exact⟨_,_,hB3,fun h=>h rfl⟩)
       have a':=V (bd.block _ _ _ zD r.o)
       clear bu an lu bd
       go_wp2_with fail
       refine⟨?_,zV⟩
       first|exact⟨j+1,U+1,O,zE,y,a'⟩|((repeat apply OA);exact⟨⟨j+1,U+1,O,zE,y,a'⟩,rfl⟩)
     ·have f1:(p.1==box)=false:=vM
      have y:Z (NX w1 (wr.alloc (.cells #[I p.1,I p.2] 153)) u5 (vW (x.zC.take k) box++XA box d.p (j+1)) U):=V (by rw[KY a4 hc];exact L.o.later (zt _ _))
      have r:=V (HB.o.alloc (.cells #[I p.1,I p.2] 153))
      clear f HM F a4 hc hp
      go_wp2_with fail
      refine⟨?_,zV⟩
      first|exact⟨j+1,U,O,zE,y,r⟩|((repeat apply OA);exact⟨⟨j+1,U,O,zE,y,r⟩,rfl⟩)
    ·have c4:j=H:=O
     subst c4
     have ar:¬(j:Int) < (j:Int):=O
     have y:Z (NX w1 wr u5 (vW (x.zC.take (k+1)) box) U):=V (by rw[ad.o,a0.o];exact L.o)
     go_wp2_with fail
     refine⟨?_,zV⟩
     first|exact⟨k+1,U,O,zE,y⟩|((repeat apply OA);exact⟨⟨k+1,U,O,zE,y⟩,rfl⟩)
  ·have c5:k=n:=O
   subst c5
   have bl:¬(k:Int) < (k:Int):=O
   obtain⟨G,h0,l,hl,hs,a1,hf,br⟩:=L.o
   rw[Ou aW] at a1
   have aq:l.length=zs.length:=by
    have h1:=congrArg List.length a1
    rw[Ow] at h1
    rw[h1]
    exact HP.o.length_eq.symm
   have bi:l.length≤1099511627776:=by rw[aq];exact HZ.o
   have bp:zs.Perm (l.map NQ.z):=by rw[a1];exact HP.o
   obtain⟨A,c,rfl,_,_⟩:=hs.form
   have M:∀(K:Ob NQ) (J:Oc),K.Perm l→Sl J 85 9 (RO A l.length c) h0 l.length (zU vI K)→NH h0.toList wr J→uY J (RO A l.length c) K∧Od w w J:=fun K J k1 k2 k3=>by
    have bj:=k1.length_eq
    have hk:uB (fun t=>t≠85) wr J:=uB.dA k3 (fun k hk=>by
     have N:h0=some k:=yi
     rcases hs.2 with⟨D,_⟩|⟨b,s,ag,cur,D,_,hB3,_⟩
     ·rw[N] at D
      cases D
     ·rw[N] at D
      obtain rfl:=O6 D
      exact⟨_,_,hB3,fun h=>h rfl⟩)
    refine⟨⟨?_,k2.ty,fun z hz=>(br z (k1.mem_iff.1 hz)).Xo hk zD zD⟩,zj bz.o (G.trans (k3.below G.size (fun k hk=>hf k yi)))⟩
    rw[bj]
    exact k2.reads [] zv
   have S:∀fv,fv=Value.func (.func 85) #[] #[]→C 84 #[RO A l.length c,fv] wr fun e J=>e=RR (.tuple #[])∧∃K:Ob NQ,K.map NQ.z=zs∧uY J (RO A l.length c) K∧Od w w J:=fun fv hfv=>by
    subst hfv
    cases A with
    |some a=>
     refine(wG wr a c h0 l hs zs bp HR.o bi).mono ?_
     rintro e J ⟨rfl,K,k1,k2,k3,k4⟩
     exact⟨rfl,K,k2,M K J k1 k3 k4⟩
    |none=>
     have c6:l.length=0:=by
      rcases hs.2 with⟨_,_,D⟩|⟨b,s,ag,cur,_,D,_⟩
      ·exact D
      ·cases D
     have bm:l=[]:=Oi c6
     subst bm
     refine(AnyF.slices_SortFunc_none {Tryz.sortTh with} none c _ wr).mono ?_
     rintro e J ⟨rfl,ca⟩
     rw[ca]
     refine⟨rfl,[],?_,M [] wr (Rp _) hs (NH.refl _ _)⟩
     exact(List.length_eq_zero_iff.1 (by rw[←aq];rfl)).symm
   have bv:=S _ rfl
   clear S M bp bi aq br hf a1 hs hl G L
   go_wp2_with (first
    |(go_at_call 84;refine bv.mono ?_;rintro e J ⟨rfl,K,k1,k2,k3⟩;have K2:=V k2;have K1:=V k1;have K3:=V k3;clear bv k1 k2 k3)
    |fail)
   go_ret
   exact⟨_,K,rfl,K1.o,K2.o,K3.o⟩
end
end Go.Proofs.YtnofkliaofgiaaaGreatDoor
