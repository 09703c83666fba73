/-
  What stands between two turns of ViewFollows: the account, the view that has all up to its greatest number, the numbers that were told.
-/
import Derived.Test.YtnofkliaofgiaaaGreatDoorGWA
import Derived.Test.YtnofkliaofgiaaaGreatDoorGWC
import Derived.Test.YtnofkliaofgiaaaGreatDoorGWB
import Derived.Test.YtnofkliaofgiaaaGreatDoorGVJ
set_option maxRecDepth 100000
set_option maxHeartbeats 8000000
open Go.Proofs.Tryz
open Go renaming TypeId→Pa,Value→Oe,World→Oc
open Go.Ending renaming returned→RR
open Go.RowKit renaming Below→Od
open Go.Value renaming string→RP
open Int renaming le_refl→Py
open List renaming map_append→OQ,map_map→PS,mem_append→OO,mem_cons→OB,mem_map→OL,mem_map_of_mem→OV,mem_singleton→OI
open Option renaming mem_toList→Pe
open Option.some renaming inj→O6
open _root_ renaming List→Ob,Option→OC
namespace Go.Proofs.YtnofkliaofgiaaaGreatDoor
open Go.Shelf Go.RowKit Go.Lib
theorem dN:∀(acs:Ob Uc) {x:Acc},NW x→(1:Int)∈ids x.zg→(1:Int)∈ids (wA x acs).zg
 |[],_,_,h=>h
 |a :: r,_,hv,h=>dN r (AP hv a) (iK hv.fit h a)
theorem rO {x:Acc}(h:Fit x)(h1:(1:Int)∈ids x.zg)(a:Uc):(1:Int)∈ids (gQ x a).zg:=by
 unfold gQ
 split
 ·exact h1
 ·exact iK h h1 a
theorem Ko {x:Acc}(h:Fit x)(a:Uc):NI x (gQ x a):=by
 unfold gQ
 split
 ·exact NI.refl x
 ·exact AO h a
theorem rN.new {x:Acc}(h:NW x)(h1:(1:Int)∈ids x.zg)(hn:0 < yb x.zg 1):rN x (jV 1 (N9 x 1)):=by
 have d:=uW h 1
 rw[nA 1 (N9 x 1) d (fun z b=>(Jp h b).1)]
 have c:∀z∈N9 x 1,z.1≤(match (N9 x 1).getLast? with|some z=>z.1|none=>0):=by
  intro z b
  cases e:(N9 x 1).getLast? with
  |none=>
   rw[List.getLast?_eq_none_iff.1 e] at b
   cases b
  |some y=>
   obtain⟨a,j⟩:=List.getLast?_eq_some_iff.1 e
   rw[j] at b d
   rcases OO.1 b with h2|h2
   ·rw[OQ,List.pairwise_append] at d
    exact Int.le_of_lt (d.2.2 z.1 (OV h2) y.1 zv)
   ·rw[OI] at h2
    rw[h2]
    exact Py _
 refine⟨fun z b _=>⟨Ua z,OV b,rfl,rfl⟩,?_,fun m hm=>?_,h1,?_⟩
 ·show (((N9 x 1).map Ua).map (·.uid)).Pairwise _
  rw[PS]
  exact d
 ·obtain⟨z,b,rfl⟩:=OL.1 hm
  exact c z b
 ·show (match (N9 x 1).getLast? with|some z=>z.1|none=>0) < _
  cases e:(N9 x 1).getLast? with
  |none=>exact hn
  |some y=>
   have b:y∈N9 x 1:=List.mem_of_getLast? e
   obtain⟨g,g2,g3⟩:=Xp b
   have f:=Vk (l:=y.2.zr) (box:=1) bJ
   have i:=((h.fit.mail y.2 g).mem.each _ f).2.2
   simp only
   rw[g2]
   exact i
section
variable {w wr w':Oc} {g gv n m:Nat} {q q':zW} {x x':Acc} {qv qv':xa} {v v':yI} {o:Oe} {hm:OC Nat} {k:Nat}
theorem BV {size:Nat}{u:Oe}{h:OC Nat}{xs:Ob Oe}(hs:Sl w 3 size u h n xs){b:Nat}(hb:h=some b):∃cs,NG w b 3 cs:=by
 rcases hs.2 with⟨h2,_⟩|⟨b2,off,cap,cur,h2,_,h3,_⟩
 ·rw[hb] at h2
  cases h2
 ·rw[hb] at h2
  obtain rfl:=O6 h2
  exact⟨_,h3⟩
theorem zH.NA (h:zH w g q x){b:Nat}{cs:Array Oe}(hB:NG w b 3 cs):b∉q.own g:=by
 intro a
 obtain⟨m,f,i⟩:=h.log
 have d:∀{e:Pa} {c n:Nat} {u:Oe} {o:OC Nat} {k:Ob Oe},Sl w e c u o n k→o=some b→3=e:=by
  intro e c n u o k l j
  rcases l.2 with⟨h2,_⟩|⟨b2,off,cap,cur,h2,_,h3,_⟩
  ·rw[j] at h2
   cases h2
  ·rw[j] at h2
   obtain rfl:=O6 h2
   exact(hB.inj h3).1
 simp only[zW.own,OB,OO,Pe] at a
 rcases a with rfl|rfl|(a|a)|a
 ·exact absurd (hB.inj h.blk).1 zD
 ·exact absurd (hB.inj f).1 zD
 ·exact absurd (d i a) zD
 ·exact absurd (d h.zg a) zD
 ·exact absurd (d h.zC a) zD
theorem yN.NA (h:yN w gv qv v){b:Nat}{cs:Array Oe}(hB:NG w b 3 cs):b∉qv.own gv:=by
 intro e
 obtain⟨t,d,a,c⟩:=h.typed e
 rw[←(hB.inj a).1] at c
 unfold NV at c
 exact absurd c zD
structure NJ (w wr:Oc)(g:Nat)(q:zW)(gv:Nat)(qv:xa)(x:Acc)(v:yI)(n m:Nat)(o:Oe)(hm:OC Nat)(k:Nat):Prop where
 st:yP w wr g q x
 vw:xN w wr gv qv v
 vl:VL x n
 vi:bX v m
 box:v.box=1
 cov:rN x v
 sl:Sl wr 3 1 o hm k ((v.l.map (·.uid)).map yJ)
 own:∀b,hm=some b→w.heap.size≤b
 len:v.l.length=k
theorem NJ.later (h:NJ w wr g q gv qv x v n m o hm k)(hb:Od wr wr w'):NJ w w' g q gv qv x v n m o hm k:=
 ⟨h.st.later hb,h.vw.later hb,h.vl,h.vi,h.box,h.cov,h.sl.keep (fun b hb2=>hb.block b (h.sl.lt b hb2)),h.own,h.len⟩
theorem NJ.more (h:NJ w wr g q gv qv x v n m o hm k){n2 m2:Nat}(hn:n≤n2)(hm2:m≤m2):NJ w wr g q gv qv x v n2 m2 o hm k:=
 ⟨h.st,h.vw,h.vl.more hn,h.vi.more hm2,h.box,h.cov,h.sl,h.own,h.len⟩
theorem NJ.act (h:NJ w wr g q gv qv x v n m o hm k)(a:Uc)(ht:zL wr w' g q (gQ x a) q'):NJ w w' g q' gv qv (gQ x a) v (n+1) m o hm k:=
 ⟨h.st.turned ht,h.vw.stored h.st.at_ ht,h.vl.Nv a,h.vi,h.box,h.cov.act h.vl.viv (Ko h.vl.viv.fit a) (rO h.vl.viv.fit h.cov.first a),h.sl.N4 ht.N4 (fun b hb hk=>by
  obtain⟨cs,hB⟩:=BV h.sl hb
  exact h.st.at_.NA hB hk),h.own,h.len⟩
structure FwU (w wr:Oc)(g:Nat)(q:zW)(gv:Nat)(qv:xa)(x:Acc)(v v':yI)(n m:Nat)(o:Oe)(hm:OC Nat)(k:Nat):Prop where
 st:yP w wr g q x
 vw:xN w wr gv qv v'
 vl:VL x n
 vi:bX v' m
 box:v'.box=1
 cov:rN x v'
 sl:Sl wr 3 1 o hm k ((v.l.map (·.uid)).map yJ)
 own:∀b,hm=some b→w.heap.size≤b
 len:v.l.length=k
theorem FwU.later (h:FwU w wr g q gv qv x v v' n m o hm k)(hb:Od wr wr w'):FwU w w' g q gv qv x v v' n m o hm k:=
 ⟨h.st.later hb,h.vw.later hb,h.vl,h.vi,h.box,h.cov,h.sl.keep (fun b hb2=>hb.block b (h.sl.lt b hb2)),h.own,h.len⟩
theorem FwU.next (h:FwU w wr g q gv qv x v v' n m o hm k){o2:Oe}{h2:OC Nat}{k2:Nat}(hs:Sl wr 3 1 o2 h2 k2 ((v'.l.map (·.uid)).map yJ))(ho:∀b,h2=some b→w.heap.size≤b)(hk:v'.l.length=k2):NJ w wr g q gv qv x v' n m o2 h2 k2:=
 ⟨h.st,h.vw,h.vl,h.vi,h.box,h.cov,hs,ho,hk⟩
theorem NJ.update (h:NJ w wr g q gv qv x v n m o hm k)(hn:n≤1000)(hm2:m≤16000000)(ht:Vm w)(all:Bool) :
  C 12 #[Y gv 0,Y g 0,.bool all] wr fun e w'=>e=RR (RP ⟨(yH yq (N9 x 1) v all).1.toArray⟩)∧∃qv',FwU w w' g q gv qv' x v (yH yq (N9 x 1) v all).2 n (m+(n+1)) o hm k:=by
 have i:=h.vi.len
 have j:=YL x 1
 have l:=h.vl.zC
 have c:=VW yq h.vl.viv h.vi 1 all
 refine(Jm wr w.heap.size g q x gv qv v (N9 x 1) all ⟨h.st.at_,h.vl.viv.fit.J9,h.vw.at_,O,by rw[h.box];exact UU h.vl.viv 1,uW h.vl.viv 1,O,h.vl.N8 hn 1,fun m hm=>by have:=(h.vi.uid m hm).2;omega,h.st.below.size,h.vw.own,fun W hW=>ht.later (h.st.below.trans hW)⟩).mono ?_
 rintro e w' ⟨rfl,qv',a⟩
 refine⟨rfl,qv',h.st.viewed h.vw a,h.vw.turned h.st.below.size a,h.vl,c.more O,(aI yq (N9 x 1) v all).trans h.box,h.cov.upd h.vl.viv yq all,h.sl.N4 a.N4 (fun b hb hk=>?_),h.own,h.len⟩
 obtain⟨f,d⟩:=BV h.sl hb
 exact h.vw.at_.NA d hk
theorem NJ.oz (h:NJ w wr g q gv qv x v n m o hm k)(hn:n≤1000)(hm2:m≤1048576)(all:Bool) :
  LD (v.l.map (·.uid)) ((yH yq (N9 x 1) v all).2.l.map (·.uid)) (lO yq (N9 x 1) v all) (yH yq (N9 x 1) v all).1 all:=by
 have a:=h.vi.len
 have b:=YL x 1
 have c:=h.vl.zC
 exact upd_out h.vl.viv all (h.vl.N8 hn 1) (fun m hm=>by have:=(h.vi.uid m hm).2;omega) O O
end
end Go.Proofs.YtnofkliaofgiaaaGreatDoor
