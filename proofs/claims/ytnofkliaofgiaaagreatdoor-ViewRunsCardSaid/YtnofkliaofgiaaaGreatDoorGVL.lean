/-
  Two accounts and two views side by side: what turns the one leaves the others.
-/
import Derived.Test.YtnofkliaofgiaaaGreatDoorGVJ
import Derived.Test.YtnofkliaofgiaaaGreatDoorGV
import Derived.Test.YtnofkliaofgiaaaGreatDoorGVE
import Derived.Test.YtnofkliaofgiaaaGreatDoorGRW
import Derived.Test.YtnofkliaofgiaaaGreatDoorGVA
import Derived.Test.YtnofkliaofgiaaaGreatDoorGVI
import Derived.Test.YtnofkliaofgiaaaGreatDoorGVH
import Derived.Test.YtnofkliaofgiaaaGreatDoorIntsVM
set_option maxRecDepth 100000
set_option maxHeartbeats 8000000
open Go.Proofs.Tryz
open Bool renaming and_eq_true→PP
open Exists renaming intro→OA
open Go renaming TypeId→Pa,Value→Oe,World→Oc
open Go.DataW renaming trod→Rw,trod_int→Ro
open Go.Ending renaming returned→RR
open Go.IntKind renaming i64→Ov
open Go.IntWalk renaming i64_in→Og
open Go.Proofs renaming enters_of→O9
open Go.RowKit renaming Below→Od
open Go.RowKit.Below renaming refl→Ok
open Go.Value renaming pointer→RQ,slice→RO,string→RP
open Go.Value.slice renaming inj→OM
open List renaming getElem_mem→Oj,length_cons→OT,length_map→Ow,map_append→OQ,mem_append→OO,mem_cons→OB,mem_map→OL,mem_map_of_mem→OV,take_of_length_le→Ou,take_succ_eq_append_getElem→Oh
open Nat renaming add_assoc→O1,le_refl→Oq,le_trans→Ol,zero_le→OE
open Option renaming mem_toList→Pe
open Option.some renaming inj→O6
open _root_ renaming List→Ob,Option→OC
namespace Go.Proofs.YtnofkliaofgiaaaGreatDoor
section
open Go.Shelf Go.RowKit Go.Lib
attribute [local go_sem ↓] Go.wp_at_zero Go.wp_at_succ
theorem tI (w:Oc)(g:Nat)(q:zW)(x:Acc)(h:zH w g q x)(hbn:x.zg.length≤1099511627776)(box:Int)(hbx:zZ x.zg box=false) :
  C 8 #[Y g 0,I box] w fun e w'=>e=RR (.tuple #[RQ none,I 6])∧Od w w w':=by
 have B:∀args w,(callFunc 32 args).run prog w=.ok (.enter 32 args) w:=O9 func32 zQ rfl
 obtain⟨s,D⟩:∃s,w.heap.size=s:=⟨_,rfl⟩
 have k:=zt w (.cells #[I box] 3)
 have j:NG (w.alloc (.cells #[I box] 3)) s 3 #[I box]:=by rw[←D];exact NG.new w _ _
 have l:=fun W (hb:Od w w W)=>iG W g q x (h.later hb) hbn
 have a:x.zg.any (fun b=>decide (b.id=box))=false:=hbx
 have c:=fun W (vv:Oe) (hr:NN W [] 6 vv x.zg.length (zU uZ x.zg)) (h0:W.cell? (Y s 0)=some (I box)) (hl:s < W.heap.size)=>Vf vv [] x.zg (fun b=>decide (b.id=box)) 32 #[Y s 0] B W hr hbn (fun W2 hb2 y _=>(QS box s W W2 y h0 hl hb2).mono fun _ _ ⟨he,hb3⟩=>⟨he,zj hb2 hb3⟩)
 rw[a] at c
 have m:(((Y g 0):Addr)==⟨g,0,none⟩)=true:=zv
 have r:=V l
 have t:=V c
 have f:=V j
 have i:=V k
 have G:=V D
 clear l c j k h hbn hbx a B m
 go_enter func8,ntmps8
 go_wp2_with (first
  |(go_at_call 31;refine(r.o _ i.o).mono ?_;rintro e v ⟨R,Q,rfl,u,L,d⟩;have n:=V (f.o.below d f.o.lt);have J:=V (zj i.o d);have H:=V (u.reads [] zv);have E:v.cell? (Y s 0)=some (I box):=n.o.cell 0;have F:s < v.heap.size:=n.o.lt;obtain⟨M,P,rfl,_,_⟩:=u.form;clear u L d)
  |(go_at_call 30;refine(t.o v _ H.o E F).mono ?_;rintro e z ⟨rfl,d⟩;have p:=V (n.o.below d n.o.lt);have A:=V (zj J.o d);have S:z.cell? (Y s 0)=some (I box):=p.o.cell 0;have K:=p.o.lt;have N:=V (zj A.o (zt z (.cells #[I box,RO none 0 0,I 0] 78)));have T:(z.alloc (.cells #[I box,RO none 0 0,I 0] 78)).cell? (Y s 0)=some (I box):=(p.o.alloc _).cell 0;clear d E F)
  |fail)
 refine bodyPost_ret (results_tmp2 rfl _ _ _) rfl ⟨rfl,A.o⟩
theorem told_no (w:Oc)(g gv:Nat)(qv:xa)(v:yI)(hv:yN w gv qv v)(at_:Int)(h:at_ < 1∨(v.l.length:Int) < at_) :
  C 19 #[Y gv 0,Y g 0,I at_] w fun e w'=>e=RR (.tuple #[])∧w=w':=by
 obtain⟨A,c,a,_,_⟩:=hv.msgs.form
 have f:w.cell? (Y gv 1)=some (RO A v.l.length c):=by
  rw[hv.blk.cell 1,←a]
  rfl
 obtain⟨n,d⟩:∃n,v.l.length=n:=⟨_,rfl⟩
 rw[d] at f h
 clear a hv d
 have b:¬at_ < 1→(n:Int) < at_:=O
 clear h
 by_cases i:at_ < 1
 all_goals
  try have j:=b i
  clear b
  go_enter func19,ntmps19
  go_wp2_with fail
  exact bodyPost_ret (results_none rfl _ _ _) rfl ⟨rfl,rfl⟩
structure V' (w wr:Oc)(g:Nat)(q:zW)(g2:Nat)(q2:zW)(x:Acc)(gv:Nat)(qv:xa)(gr:Nat)(qr:NM)(v u:yI):Prop where
 both:V9 w wr g q g2 q2 x
 vw:yN wr gv qv v
 rv:XF wr gr qr u
 ov:∀k∈qv.own gv,w.heap.size≤k
 orr:∀k∈qr.own gr,w.heap.size≤k
section
variable {w wr w':Oc} {g g2 gv gr:Nat} {q q2 q' q2':zW} {x x':Acc} {qv qv':xa} {qr qr':NM} {v u v' u':yI}
theorem zJ.NE (h:zJ wr g2 q2 x)(hv:yN wr gv qv v):∀k∈q2.own g2,k∉qv.own gv:=by
 intro k hk a
 obtain⟨t,b,hB,hT⟩:=hv.typed a
 obtain⟨c,bq,gm⟩:=h.log
 have eu:∀{e:Pa} {Bj n:Nat} {u:Oe} {o:OC Nat} {xs:Ob Oe},Sl wr e Bj u o n xs→o=some k→t=e:=by
  intro e Bj n u o xs hs ho
  rcases hs.2 with⟨h2,_⟩|⟨b,off,cap,cur,h2,_,h3,_⟩
  ·rw[ho] at h2
   cases h2
  ·rw[ho] at h2
   obtain rfl:=O6 h2
   exact(hB.inj h3).1
 unfold NV at hT
 exact I0
theorem zH.ND (h:zH wr g q x)(hv:XF wr gr qr u):∀k∈q.own g,k∉qr.own gr:=by
 intro k hk a
 obtain⟨t,b,hB,hT⟩:=hv.typed a
 obtain⟨c,bq,gm⟩:=h.log
 have eu:∀{e:Pa} {Bj n:Nat} {u:Oe} {o:OC Nat} {xs:Ob Oe},Sl wr e Bj u o n xs→o=some k→t=e:=by
  intro e Bj n u o xs hs ho
  rcases hs.2 with⟨h2,_⟩|⟨b,off,cap,cur,h2,_,h3,_⟩
  ·rw[ho] at h2
   cases h2
  ·rw[ho] at h2
   obtain rfl:=O6 h2
   exact(hB.inj h3).1
 exact I0
theorem aL (hv:yN wr gv qv v)(hr:XF wr gr qr u):∀k∈qr.own gr,k∉qv.own gv:=fun k hk hm=>by
 obtain⟨t,cs,hB,hT⟩:=hv.typed hm
 obtain⟨t2,cs2,hB2,hT2⟩:=hr.typed hk
 rw[(hB.inj hB2).1] at hT
 unfold NV at hT
 rcases hT2 with rfl|rfl <;> exact absurd hT zD
theorem yN.wide (hv:yN wr gv qv v):gZ wr (qv.own gv):=fun b hb=>by
 obtain⟨t,cs,hB,hT⟩:=hv.typed hb
 exact⟨t,cs,hB,by rcases hT with rfl|rfl|rfl <;> decide,by rcases hT with rfl|rfl|rfl <;> decide⟩
theorem zH.NE (h:zH wr g q x)(hv:yN wr gv qv v):∀k∈q.own g,k∉qv.own gv:=fun k hk hm=>by
 obtain⟨t,cs,hB,hT⟩:=hv.typed hm
 exact h.noV hk hB hT
theorem V'.later (h:V' w wr g q g2 q2 x gv qv gr qr v u)(hb:Od wr wr w'):V' w w' g q g2 q2 x gv qv gr qr v u:=
 ⟨h.both.later hb,h.vw.later hb,h.rv.later hb,h.ov,h.orr⟩
theorem V'.below (h:V' w wr g q g2 q2 x gv qv gr qr v u):Od w w wr:=h.both.st.below
theorem V'.Nv (h:V' w wr g q g2 q2 x gv qv gr qr v u)(hb:V9 w w' g q' g2 q2' x')(hm:Moved wr w' g q g2 q2 q' q2'):V' w w' g q' g2 q2' x' gv qv gr qr v u:=by
 refine⟨hb,h.vw.N4 hm.N4 fun k hk h1=>?_,h.rv.N4 hm.N4 fun k hk h1=>?_,h.ov,h.orr⟩
 ·rcases OO.1 h1 with h2|h2
  ·exact h.both.st.at_.NE h.vw k h2 hk
  ·exact h.both.rf.at_.NE h.vw k h2 hk
 ·rcases OO.1 h1 with h2|h2
  ·exact h.both.st.at_.ND h.rv k h2 hk
  ·exact h.both.rf.at_.ND h.rv k h2 hk
theorem V'.viewed (h:V' w wr g q g2 q2 x gv qv gr qr v u)(k:xc wr w' gv qv v' qv'):V' w w' g q g2 q2 x gv qv' gr qr v' u:=by
 have a:=h.below.trans (k.N4.below h.below.size h.ov)
 refine⟨⟨⟨h.both.st.at_.besides h.vw.wide (h.both.st.at_.NE h.vw) k.N4,a,h.both.st.own⟩,⟨h.both.rf.at_.besides h.vw.wide (h.both.rf.at_.NE h.vw) k.N4,a,h.both.rf.own⟩,h.both.apart⟩,k.at_,h.rv.N4 k.N4 (aL h.vw h.rv),fun i hi=>?_,h.orr⟩
 rcases k.own i hi with h1|h1
 ·exact h.ov i h1
 ·exact Ol h.below.size h1
theorem V'.X2 (h:V' w wr g q g2 q2 x gv qv gr qr v u)(k:yM wr w' gr qr u' qr'):V' w w' g q g2 q2 x gv qv gr qr' v u':=by
 have a:=h.below.trans (k.N4.below h.below.size h.orr)
 refine⟨⟨⟨h.both.st.at_.besides h.rv.wide (h.both.st.at_.ND h.rv) k.N4,a,h.both.st.own⟩,⟨h.both.rf.at_.X2 h.rv k,a,h.both.rf.own⟩,h.both.apart⟩,h.vw.N4 k.N4 (fun i hi h1=>aL h.vw h.rv i h1 hi),k.at_,h.ov,fun i hi=>?_⟩
 rcases k.own i hi with h1|h1
 ·exact h.orr i h1
 ·exact Ol h.below.size h1
end
end
end Go.Proofs.YtnofkliaofgiaaaGreatDoor
